/- rota's reference: New, Next; few. -/
import Derived.Test.YtnibgchgcggfbadRefA
import Derived.RegionTactic
import Derived.ChangeAlike
import Derived.Deep.RegionHeld3
import Derived.Deep.RegionLaw
import Derived.Test.YtnibgchgcggfbadAgg
namespace Go.Proofs.Ytnibgchgcggfbad
open Go.RowKit Go.Qd

def fewB (l : List SV) : Bool := l.all (fun x => decide (x.n ≤ 20)) && decide (l.length ≤ 60)
theorem take_all {α : Type} {p : α → Bool} {l : List α} {i : Nat} (h : i < l.length) : (l.take (i + 1)).all p = ((l.take i).all p && p l[i]) := by
  rw [List.take_succ_eq_append_getElem h, List.all_append]; simp only [List.all_cons, List.all_nil, Bool.and_true]

set_option maxHeartbeats 400000 in
theorem few_c {W w : World} {R : List HP} {post : Ending → World → Prop} {ao : Option Addr} {n c : Nat} {l : List SV} (st : St W w R) (rd : RdS W 1 ao n c (slCells l))
    (K : post (.returned (.bool (fewB l))) w) : Calls Try.prog 9 #[.slice ao n c] w post := by
  have HK := hid K; clear K
  have hl := hid (slCells_len rd)
  have hbig := rd.big
  go_enter Try.func9, Try.ntmps9
  go_wp2_with fail
  go_loop [7] (fun ii => ∃ k : Nat, k ≤ n ∧ ii = .int .i64 k ∧ Hid ((l.take k).all (fun x => decide (x.n ≤ 20)) = true)) (fun ii => n - (intOf ii).toNat)
  case atStart => exact ⟨0, Nat.zero_le _, rfl, hid rfl⟩
  case round =>
    obtain ⟨k, hk, rfl, hh⟩ := hrel
    by_cases hlt : k < n
    · obtain ⟨g, o, rfl⟩ := rd.addr (by omega)
      have hkl : k < l.length := by rw [hl.out]; exact hlt
      have hc0 := (rd.st st).at (slCells_get hkl)
      have hs := take_all (p := fun x : SV => decide (x.n ≤ 20)) hkl
      obtain ⟨x, hx⟩ : ∃ x, l[k] = x := ⟨_, rfl⟩
      rw [hx] at hc0 hs
      have HX := hid hx; have HS := hid hs; clear hx hs
      obtain ⟨xa, xn, xc, xL⟩ := x
      dsimp only [SV.val] at hc0
      by_cases hh1 : xn ≤ 20
      · have hs2 := hid (show (l.take (k + 1)).all (fun x => decide (x.n ≤ 20)) = true by rw [HS.out, hh.out]; simpa using hh1)
        go_wp2
        go_round
        case rel => exact ⟨k + 1, by omega, by go_num, hs2⟩
        case measure => simp [intOf]; omega
      · have hb : fewB l = false := by
          unfold fewB
          rw [Bool.and_eq_false_iff]
          refine .inl ?_
          rw [List.all_eq_false]
          exact ⟨l[k], List.getElem_mem hkl, by rw [HX.out]; simpa using hh1⟩
        rw [hb] at HK
        clear hb
        go_wp2
        exact HK.out
    · have hkn : k = n := by omega
      subst hkn
      have hb : fewB l = decide ((k : Int) ≤ 60) := by
        unfold fewB
        have := hh.out
        rw [List.take_of_length_le (by rw [hl.out]; exact Nat.le_refl _)] at this
        rw [this, Bool.true_and, hl.out]
        rw [Bool.eq_iff_iff]; simp; omega
      rw [hb] at HK
      clear hb
      go_wp2
      exact HK.out

section
variable {W w : World} {R : List HP} {post : Ending → World → Prop} {full cyc : Int} {L : List Int}

theorem refNew_no (st : St W w R) (h : full < 1 ∨ 64 < full) (K : ∀ w', St W w' R → post (.returned (.tuple #[.agg #[.int .i64 0, .int .i64 0, .slice none 0 0], .int .i64 1])) w') : Calls Try.prog 10 #[.int .i64 full] w post := by
  have HK := hid K; clear K
  have s1 := st.alloc #[.int .i64 0, .int .i64 0, .slice none 0 0] 34
  rcases h with h | h
  · go_enter Try.func10, Try.ntmps10
    go_wp2
    exact bodyPost_ret (v := .tuple #[.agg #[.int .i64 0, .int .i64 0, .slice none 0 0], .int .i64 1]) (by simp [results, Try.results10, go_sem]) rfl (HK.out _ s1.drop)
  · have h' : ¬ full < 1 := by omega
    go_enter Try.func10, Try.ntmps10
    go_wp2
    exact bodyPost_ret (v := .tuple #[.agg #[.int .i64 0, .int .i64 0, .slice none 0 0], .int .i64 1]) (by simp [results, Try.results10, go_sem]) rfl (HK.out _ s1.drop)

theorem refNew_c (st : St W w R) (h : 1 ≤ full ∧ full ≤ 64) (K : ∀ w', St W w' R → post (.returned (.tuple #[.agg #[.int .i64 full, .int .i64 0, .slice none 0 0], .int .i64 0])) w') : Calls Try.prog 10 #[.int .i64 full] w post := by
  have HK := hid K; clear K
  obtain ⟨h1, h2⟩ := h
  go_enter Try.func10, Try.ntmps10
  go_wp2
  refine bodyPost_ret (v := .tuple #[.agg #[.int .i64 full, .int .i64 0, .slice none 0 0], .int .i64 0]) (by simp [results, Try.results10, go_sem]) rfl (HK.out _ (st.alloc _ _).drop)

theorem agg34 : AggT Try.prog 34 3 := ⟨⟨_, Try.underlying34, rfl⟩, by kernel_rfl⟩
theorem zero34 (w : World) : (zeroValue 34).run Try.prog w = .ok (.agg [Value.int .i64 0, .int .i64 0, .slice none 0 0].toArray) w := by kernel_rfl

theorem refNext_take {ao : Option Addr} {n c : Nat} {p : Int} {ak : Option Addr} {nk ck : Nat} (st : St W w (RdH W 1 ao (n + 1) c (ivs (p :: L)) :: R)) (hf : 1 ≤ full ∧ full ≤ 64) (hc : 0 ≤ cyc ∧ cyc ≤ 1000000) (hn : n ≤ 100000)
    (K : ∀ w' a' c', St W w' (RdH W 1 a' n c' (ivs L) :: R) → post (.returned (.tuple #[.agg #[.int .i64 full, .int .i64 cyc, .slice a' n c'], .int .i64 p, .bool (cyc % full == 0), .bool true])) w') :
    Calls Try.prog 11 #[.agg #[.int .i64 full, .int .i64 cyc, .slice ao (n + 1) c], .slice ak nk ck] w post := by
  have HK := hid K; clear K
  obtain ⟨hf1, hf2⟩ := hf
  obtain ⟨hc1, hc2⟩ := hc
  obtain ⟨g, o, rfl⟩ := (RdH.rd st).addr (Nat.succ_pos _)
  have hbig := (RdH.rd st).big
  obtain ⟨ax, cx, ht, hr⟩ := run_slice_from Try.elem28 (some ⟨g, o, none⟩) (n + 1) c 1 n (i := 1) rfl (by omega)
  have HT := hid ht
  clear ht
  have hb1 : (0 + n) * 8 ≤ 140737488355328 := by omega
  have hm1 : 0 + n ≤ maxLen := by unfold maxLen; omega
  have hn0 : ((n : Int) + 1 == 0) = false := by simp; omega
  go_enter Try.func11, Try.ntmps11
  go_wp2_with (first
    | (refine wpl_boxA (vs := [.int .i64 full, .int .i64 cyc, .slice (some ⟨g, o, none⟩) (n + 1) c]) rfl (.tmp 0) rfl rfl st ?_; rintro B w1 s1; obtain ⟨h0, h1, h2⟩ := box3 s1)
    | (refine wpl_allocA rfl rfl zero34 s1 ?_; rintro D w2 s2; obtain ⟨g0, g1, g2⟩ := box3 (St.pick 1 s2); have hBl : B < w2.heap.size := World.block_lt_of_cell? _ _ g2; have rd := RdH.rd (St.pick 2 s2); have hp := rd.at (i := 0) (u := iv p) rfl; rw [Nat.add_zero] at hp; have s3 := OwnS.empty (sz := 1) (s2.alloc #[] 3).drop (some ⟨w2.heap.size, 0, none⟩); have r3 := RdS.tail (RdH.rd (St.pick 3 s3)) (k := 1) (n' := n) (by omega) HT.out; clear rd)
    | (at_builtin; refine wpl_append rfl (.tmp 40) (.tmp 43) rfl Try.elem28 rfl rfl s3 r3 hb1 hm1 ?_; rintro a4 c4 w4 s4'; have s4 : St W w4 (row B 0 [.int .i64 full, .int .i64 cyc, .slice (some ⟨g, o, none⟩) (n + 1) c] :: OwnS 1 a4 n c4 (ivs L) :: row D 0 [.int .i64 0, .int .i64 0, .slice none 0 0] :: R) := (by have h := s4'.perm [2, 0, 0]; simp only [Nat.zero_add, List.nil_append] at h; exact (St.pick 3 h).drop); rw [Nat.zero_add]; obtain ⟨k0, k1, k2⟩ := box3 s4; obtain ⟨_, kf⟩ := free3 s4))
  have s5 := s4.rowSet (i := 2) (by simp) (.slice a4 n c4)
  rw [Nat.zero_add] at s5
  generalize w4.setCell ⟨B, 2, none⟩ (.slice a4 n c4) = w5 at s5 ⊢
  have s6 : St W w5 (row B 0 [.int .i64 full, .int .i64 cyc, .slice a4 n c4] :: OwnS 1 a4 n c4 (ivs L) :: row D 0 [.int .i64 0, .int .i64 0, .slice none 0 0] :: R) := s5
  obtain ⟨j0, j1, j2⟩ := box3 s6
  obtain ⟨e0, e1, e2⟩ := box3 (St.pick 2 s6)
  have hBD : B ≠ D := fun e => by subst e; exact (St.apart (s6.sel [0, 1]) (i := 0) (j := 0) (by simp) (by simp)) ⟨rfl, rfl⟩
  clear h0 h1 h2 g0 g1 g2 hp s1 s2 s3 r3 s4 s4' k0 k1 k2 kf s5 hr
  have h1 : full ≠ 0 := by omega
  have h2 : cyc.tmod full = cyc % full := Int.tmod_eq_emod_of_nonneg hc1
  have h3 := Int.emod_nonneg cyc h1
  have h4 := Int.emod_lt_of_pos cyc (by omega : 0 < full)
  have f0 : w5.frozen? ⟨D, 0, none⟩ = false := (St.pick 2 s6).rowFree (i := 0) (by simp)
  obtain ⟨f1, f2⟩ := free3 (St.pick 2 s6)
  have hDB : D ≠ B := fun e => hBD e.symm
  have s7 : St W _ (row D 0 [.int .i64 full, .int .i64 cyc, .slice a4 n c4] :: row B 0 [.int .i64 full, .int .i64 cyc, .slice a4 n c4] :: OwnS 1 a4 n c4 (ivs L) :: R) := (((St.pick 2 s6).rowSet (i := 0) (by simp) (.int .i64 full)).rowSet (i := 1) (by simp) (.int .i64 cyc)).rowSet (i := 2) (by simp) (.slice a4 n c4)
  rw [Nat.zero_add, Nat.zero_add, Nat.zero_add] at s7
  obtain ⟨q0, q1, q2⟩ := box3 s7
  have HW := hid s7
  clear s7
  go_region
  generalize ((w5.setCell ⟨D, 0, none⟩ (.int .i64 full)).setCell ⟨D, 1, none⟩ (.int .i64 cyc)).setCell ⟨D, 2, none⟩ (.slice a4 n c4) = wz at HW q0 q1 q2 ⊢
  go_wp2
  exact bodyPost_ret (v := .tuple #[.agg #[.int .i64 full, .int .i64 cyc, .slice a4 n c4], .int .i64 p, .bool (cyc % full == 0), .bool true]) (by simp [results, Try.results11, go_sem, q0, q1, q2]) rfl (HK.out _ _ _ (RdH.own (HW.out.drew.dropN 2)))

end

end Go.Proofs.Ytnibgchgcggfbad
