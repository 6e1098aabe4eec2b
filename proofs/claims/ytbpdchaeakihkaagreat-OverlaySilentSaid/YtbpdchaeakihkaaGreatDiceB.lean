/- The dice: Pick; the reference's Same. -/
import Derived.Test.YtbpdchaeakihkaaGreatDiceA
namespace Go.Proofs.YtbpdchaeakihkaaGreat
open Go.RowKit Go.Qd

theorem drawV_range {l : List Int} {n : Int} (h : 1 ≤ n) : 0 ≤ drawV l n ∧ drawV l n < n := by
  cases l with
  | nil => exact ⟨Int.le_refl _, by simp [drawV]; omega⟩
  | cons x r =>
    have h1 : ¬ n < 1 := by omega
    simp only [drawV, h1, if_false]
    exact ⟨Int.emod_nonneg x (by omega), Int.emod_lt_of_pos x (by omega)⟩

def pickV (l zs : List Int) : Int := zs.getD (drawV l zs.length).toNat 0

/-- Pick. -/
theorem pick_c {W w : World} {R : List HP} {post : Ending → World → Prop} {b : Nat} {l : List Int} {ao : Option Addr} {n c : Nat} {zs : List Int} (st : St W w (DiceA b l :: R))
    (rd : ∀ w', St W w' R → RdS w' 1 ao n c (ivs zs))
    (K : ∀ w', St W w' (DiceA b (if zs = [] then l else drawL l zs.length) :: R) → post (.returned (.tuple #[.int .i64 (if zs = [] then 0 else pickV l zs), .bool (!zs.isEmpty)])) w') :
    Calls Tryz.prog 90 #[.pointer (some ⟨b, 0, none⟩), .slice ao n c] w post := by
  have HK := hid K; clear K
  have r0 := rd w st.drop
  have hn : zs.length = n := by have := r0.len; simpa [ivs] using this
  have HN := hid hn
  have hm := r0.max
  have hle := r0.le
  unfold maxLen at hm
  rcases Nat.eq_zero_or_pos n with h0 | h0
  · subst h0
    have hz : zs = [] := List.eq_nil_of_length_eq_zero hn
    subst hz
    have k := hid (HK.out w st)
    clear HK HN hn rd
    go_enter Tryz.func90, Tryz.ntmps90
    go_wp2
    exact k.out
  · have hz : zs ≠ [] := fun h => by subst h; simp at hn; omega
    have hz' : zs.isEmpty = false := by cases zs <;> simp at hz ⊢
    rw [if_neg hz, if_neg hz, hz', hn] at HK
    obtain ⟨g, o, rfl⟩ := r0.addr h0
    have hr := drawV_range (l := l) (n := (n : Int)) (by omega)
    have hd := hid rd; clear rd
    obtain ⟨k, hk⟩ := Int.eq_ofNat_of_zero_le hr.1
    have hkn : k < n := by rw [hk] at hr; omega
    have hkl : k < zs.length := by omega
    have hv : pickV l zs = zs[k] := by
      unfold pickV; rw [hn, hk]; simp [List.getD, hkl]
    rw [hv] at HK
    have HH := hid hk
    clear hr hk hv r0 hn hz hz'
    go_enter Tryz.func90, Tryz.ntmps90
    go_wp2_with (go_at_call 138; refine draw_c st (by omega) ?_; rintro w' s2; have hc := (hd.out w' s2.drop).at (ivs_get hkl); rw [HH.out])
    exact HK.out _ s2

theorem take_snoc_eq {xs ys : List Int} {k : Nat} (hx : k < xs.length) (hy : k < ys.length) (h : xs.take k = ys.take k) (e : xs[k] = ys[k]) : xs.take (k + 1) = ys.take (k + 1) := by
  rw [List.take_succ_eq_append_getElem hx, List.take_succ_eq_append_getElem hy, h, e]

theorem same_c {post : Ending → World → Prop} {w : World} {ao ap : Option Addr} {n m c d : Nat} {xs ys : List Int} (ra : RdS w 1 ao n c (ivs xs)) (rb : RdS w 1 ap m d (ivs ys))
    (K : ∀ k, post (.returned (.bool (decide (xs = ys)))) (w.drewN k)) : Calls Tryz.prog 26 #[.slice ao n c, .slice ap m d] w post := by
  have HK := hid K; clear K
  have hn := hid (show xs.length = n by have := ra.len; simpa [ivs] using this)
  have hm := hid (show ys.length = m by have := rb.len; simpa [ivs] using this)
  have hl1 := ra.max; have hl2 := ra.le
  unfold maxLen at hl1
  by_cases hnm : n = m
  · subst hnm
    go_enter Tryz.func26, Tryz.ntmps26
    go_wp2
    go_loopw [5] (fun i wr => ∃ k : Nat, k ≤ n ∧ i = .int .i64 k ∧ Hid (xs.take k = ys.take k) ∧ ∃ q, wr = w.drewN q) (fun i _ => n - (intOf i).toNat)
    case atStart => exact ⟨0, Nat.zero_le _, rfl, hid rfl, 0, rfl⟩
    case round =>
      obtain ⟨k, hk, rfl, hh, q, rfl⟩ := hrel
      by_cases hlt : k < n
      · obtain ⟨g, o, rfl⟩ := ra.addr (by omega)
        obtain ⟨g', o', rfl⟩ := rb.addr (by omega)
        have hkx : k < xs.length := by rw [hn.out]; exact hlt
        have hky : k < ys.length := by rw [hm.out]; exact hlt
        have hc1 := ra.at (ivs_get hkx)
        have hc2 := rb.at (ivs_get hky)
        obtain ⟨x, hx⟩ : ∃ x, xs[k] = x := ⟨_, rfl⟩
        obtain ⟨y, hy⟩ : ∃ y, ys[k] = y := ⟨_, rfl⟩
        rw [hx] at hc1
        rw [hy] at hc2
        have HX := hid hx; have HY := hid hy; clear hx hy
        by_cases hxy : x = y
        · have hb : (x != y) = false := by rw [hxy]; simp
          have hs := hid (take_snoc_eq hkx hky hh.out (by rw [HX.out, HY.out, hxy]))
          clear hxy
          go_wp2
          go_quiet (fail)
          go_wp2
          go_roundw
          case rel => exact ⟨k + 1, by omega, by go_num, hs, _, rfl⟩
          case measure => simp [intOf]; omega
        · have hb : (x != y) = true := by simpa using hxy
          have hs := hid (show xs ≠ ys from fun h => hxy (by subst h; rw [← HX.out, ← HY.out]))
          clear hxy
          go_wp2
          go_quiet (fail)
          go_wp2
          have := HK.out (q + nq)
          rw [decide_eq_false hs.out, ← World.drewN_drewN] at this
          exact this
      · have hkn : k = n := by omega
        subst hkn
        have hxy : xs = ys := by
          have := hh.out
          rwa [List.take_of_length_le (by rw [hn.out]; exact Nat.le_refl _), List.take_of_length_le (by rw [hm.out]; exact Nat.le_refl _)] at this
        have hk := HK.out q
        rw [decide_eq_true hxy] at hk
        have HK2 := hid hk
        clear hxy hk HK
        go_wp2
        exact HK2.out
  · have hxy : xs ≠ ys := fun h => hnm (by rw [← hn.out, ← hm.out, h])
    have hk := HK.out 0
    rw [decide_eq_false hxy] at hk
    have HK2 := hid hk
    clear hxy hk HK
    go_enter Tryz.func26, Tryz.ntmps26
    go_wp2
    exact HK2.out

end Go.Proofs.YtbpdchaeakihkaaGreat
