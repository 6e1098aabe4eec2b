/- rota's reference: Same; Next and the reference's Next, whoever is known. -/
import Derived.Test.YtnibgchgcggfbadRefC
namespace Go.Proofs.Ytnibgchgcggfbad
open Go.RowKit Go.Qd

theorem take_snoc_eq {xs ys : List Int} {k : Nat} (hx : k < xs.length) (hy : k < ys.length) (h : xs.take k = ys.take k) (e : xs[k] = ys[k]) : xs.take (k + 1) = ys.take (k + 1) := by
  rw [List.take_succ_eq_append_getElem hx, List.take_succ_eq_append_getElem hy, h, e]

theorem same_c {post : Ending → World → Prop} {w : World} {ao ap : Option Addr} {n m c d : Nat} {xs ys : List Int} (ra : RdS w 1 ao n c (ivs xs)) (rb : RdS w 1 ap m d (ivs ys))
    (K : ∀ k, post (.returned (.bool (decide (xs = ys)))) (w.drewN k)) : Calls Try.prog 13 #[.slice ao n c, .slice ap m d] w post := by
  have HK := hid K; clear K
  have hn := hid (show xs.length = n by have := ra.len; simpa [ivs] using this)
  have hm := hid (show ys.length = m by have := rb.len; simpa [ivs] using this)
  have hl1 := ra.max; have hl2 := ra.le
  unfold maxLen at hl1
  by_cases hnm : n = m
  · subst hnm
    go_enter Try.func13, Try.ntmps13
    go_wp2
    go_loopw [5] (fun i wr => ∃ k : Nat, k ≤ n ∧ i = .int .i64 k ∧ Hid (xs.take k = ys.take k) ∧ ∃ q, wr = w.drewN q) (fun i _ => n - (intOf i).toNat)
    case atStart => exact ⟨0, Nat.zero_le _, rfl, hid rfl, 0, rfl⟩
    case round =>
      obtain ⟨k, hk, rfl, hh, q, rfl⟩ := hrel
      by_cases hlt : k < n
      · obtain ⟨g, o, rfl⟩ := ra.addr (by omega)
        obtain ⟨g', o', rfl⟩ := rb.addr (by omega)
        have hkx : k < xs.length := by rw [hn.out]; exact hlt
        have hky : k < ys.length := by rw [hm.out]; exact hlt
        have hc1 := ra.at (ivs_get hkx)
        have hc2 := rb.at (ivs_get hky)
        obtain ⟨x, hx⟩ : ∃ x, xs[k] = x := ⟨_, rfl⟩
        obtain ⟨y, hy⟩ : ∃ y, ys[k] = y := ⟨_, rfl⟩
        rw [hx] at hc1
        rw [hy] at hc2
        have HX := hid hx; have HY := hid hy; clear hx hy
        by_cases hxy : x = y
        · have hb : (x != y) = false := by rw [hxy]; simp
          have hs := hid (take_snoc_eq hkx hky hh.out (by rw [HX.out, HY.out, hxy]))
          clear hxy
          go_wp2
          go_quiet (fail)
          go_wp2
          go_roundw
          case rel => exact ⟨k + 1, by omega, by go_num, hs, _, rfl⟩
          case measure => simp [intOf]; omega
        · have hb : (x != y) = true := by simpa using hxy
          have hs := hid (show xs ≠ ys from fun h => hxy (by subst h; rw [← HX.out, ← HY.out]))
          clear hxy
          go_wp2
          go_quiet (fail)
          go_wp2
          have := HK.out (q + nq)
          rw [decide_eq_false hs.out, ← World.drewN_drewN] at this
          exact this
      · have hkn : k = n := by omega
        subst hkn
        have hxy : xs = ys := by
          have := hh.out
          rwa [List.take_of_length_le (by rw [hn.out]; exact Nat.le_refl _), List.take_of_length_le (by rw [hm.out]; exact Nat.le_refl _)] at this
        have hk := HK.out q
        rw [decide_eq_true hxy] at hk
        have HK2 := hid hk
        clear hxy hk HK
        go_wp2
        exact HK2.out
  · have hxy : xs ≠ ys := fun h => hnm (by rw [← hn.out, ← hm.out, h])
    have hk := HK.out 0
    rw [decide_eq_false hxy] at hk
    have HK2 := hid hk
    clear hxy hk HK
    go_enter Try.func13, Try.ntmps13
    go_wp2
    exact HK2.out

def okB (L zs : List Int) : Bool := !(L.isEmpty && zs.isEmpty)
def nC2 (cyc : Int) (L zs : List Int) : Int := if okB L zs then nC cyc L else cyc
def fB (full cyc : Int) (L zs : List Int) : Bool := okB L zs && (nC cyc L % full == 0)

theorem nC2_le (cyc : Int) (L zs : List Int) : cyc ≤ nC2 cyc L zs ∧ nC2 cyc L zs ≤ cyc + 1 := by
  have : cyc ≤ nC cyc L ∧ nC cyc L ≤ cyc + 1 := by unfold nC; split <;> omega
  unfold nC2; split <;> omega
theorem rotaL_nil : rotaL [] = [] := List.eq_nil_iff_forall_not_mem.2 fun x hx => by rw [mem_rotaL] at hx; cases hx
theorem nP_nil : nP [] [] = 0 := by simp [nP, rotaL_nil]
theorem nL_nil : nL [] [] = [] := by simp [nL, rotaL_nil]
theorem nC2_nil (cyc : Int) : nC2 cyc [] [] = cyc := by simp [nC2, okB]
theorem fB_nil (full cyc : Int) : fB full cyc [] [] = false := by simp [fB, okB]
theorem nL_le {L zs : List Int} {m : Nat} (h1 : L.length ≤ m) (h2 : zs.length ≤ m) : (nL L zs).length ≤ m := by
  unfold nL
  rw [List.length_tail]
  have : (rotaL zs).length ≤ zs.length := by
    unfold rotaL
    exact Nat.le_trans (compact_le _) (by rw [List.length_mergeSort]; exact Nat.le_refl _)
  split <;> omega

section
variable {W w : World} {R : List HP} {post : Ending → World → Prop} {b : Nat} {full cyc : Int} {L : List Int}

theorem next_any {ak : Option Addr} {nk ck : Nat} {zs : List Int} (st : St W w (RotaA b full cyc L :: R)) (rk : Rds W R 1 ak nk ck (ivs zs)) (hk2 : nk ≤ 1000) (hf : 1 ≤ full ∧ full ≤ 64) (hc : 0 ≤ cyc ∧ cyc ≤ 1000000)
    (K : ∀ w', St W w' (RotaA b full (nC2 cyc L zs) (nL L zs) :: R) → post (.returned (.tuple #[.int .i64 (nP L zs), .bool (fB full cyc L zs), .bool (okB L zs)])) w') :
    Calls Try.prog 8 #[.pointer (some ⟨b, 0, none⟩), .slice ak nk ck] w post := by
  by_cases hz : zs = []
  · have hl := ivs_len (rk w st.drop)
    subst hz
    simp only [List.length_nil] at hl
    subst hl
    cases L with
    | nil =>
      rw [nP_nil, nL_nil, nC2_nil, fB_nil] at K
      exact next_none st (K w st)
    | cons p L' =>
      have e1 : nP (p :: L') [] = p := by simp [nP]
      have e2 : nL (p :: L') [] = L' := by simp [nL]
      have e3 : nC2 cyc (p :: L') [] = cyc := by simp [nC2, nC]
      have e4 : fB full cyc (p :: L') [] = (cyc % full == 0) := by simp [fB, okB, nC]
      have e5 : okB (p :: L') [] = true := rfl
      rw [e1, e2, e3, e4, e5] at K
      exact next_take st hf hc K
  · have e5 : okB L zs = true := by unfold okB; cases zs <;> simp at hz ⊢
    have e3 : nC2 cyc L zs = nC cyc L := by unfold nC2; rw [e5]; rfl
    have e4 : fB full cyc L zs = (nC cyc L % full == 0) := by unfold fB; rw [e5]; rfl
    rw [e3, e4, e5] at K
    exact next_c st rk hz (by omega) hf hc K

theorem refNext_any {ao : Option Addr} {n c : Nat} {ak : Option Addr} {nk ck : Nat} {zs : List Int} (st : St W w (RdH W 1 ao n c (ivs L) :: R)) (rk : Rds W R 1 ak nk ck (ivs zs)) (hk2 : nk ≤ 1000) (hf : 1 ≤ full ∧ full ≤ 64) (hc : 0 ≤ cyc ∧ cyc ≤ 1000000) (hn : L.length ≤ 100000)
    (K : ∀ w' a' m' c', St W w' (RdH W 1 a' m' c' (ivs (nL L zs)) :: R) → post (.returned (.tuple #[.agg #[.int .i64 full, .int .i64 (nC2 cyc L zs), .slice a' m' c'], .int .i64 (nP L zs), .bool (fB full cyc L zs), .bool (okB L zs)])) w') :
    Calls Try.prog 11 #[.agg #[.int .i64 full, .int .i64 cyc, .slice ao n c], .slice ak nk ck] w post := by
  have hl0 := ivs_len (RdH.rd st)
  by_cases hz : zs = []
  · have hl := ivs_len (rk w st.drop)
    subst hz
    simp only [List.length_nil] at hl
    subst hl
    cases L with
    | nil =>
      simp only [List.length_nil] at hl0
      subst hl0
      rw [nP_nil, nL_nil, nC2_nil, fB_nil] at K
      exact refNext_none st fun w' s => K w' _ _ _ s
    | cons p L' =>
      simp only [List.length_cons] at hl0
      subst hl0
      have e1 : nP (p :: L') [] = p := by simp [nP]
      have e2 : nL (p :: L') [] = L' := by simp [nL]
      have e3 : nC2 cyc (p :: L') [] = cyc := by simp [nC2, nC]
      have e4 : fB full cyc (p :: L') [] = (cyc % full == 0) := by simp [fB, okB, nC]
      have e5 : okB (p :: L') [] = true := rfl
      rw [e1, e2, e3, e4, e5] at K
      simp only [List.length_cons] at hn
      exact refNext_take st hf hc (by omega) fun w' a' c' s => K w' a' _ c' s
  · have e5 : okB L zs = true := by unfold okB; cases zs <;> simp at hz ⊢
    have e3 : nC2 cyc L zs = nC cyc L := by unfold nC2; rw [e5]; rfl
    have e4 : fB full cyc L zs = (nC cyc L % full == 0) := by unfold fB; rw [e5]; rfl
    rw [e3, e4, e5] at K
    exact refNext_c st rk hz hk2 hf hc (by omega) K

end

end Go.Proofs.Ytnibgchgcggfbad
