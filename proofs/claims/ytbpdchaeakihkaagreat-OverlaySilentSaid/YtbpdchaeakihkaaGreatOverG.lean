/- The overlay: raise, Heard, Join. -/
import Derived.Test.YtbpdchaeakihkaaGreatOverF
namespace Go.Proofs.YtbpdchaeakihkaaGreat
open Go.RowKit Go.Qd

section
variable {W w : World} {R : List HP} {post : Ending → World → Prop} {b d : Nat} {O : OV} {p : Int}

theorem OOK.raise (h : OOK O) (p : Int) : OOK (raiseO O p) := by
  unfold raiseO
  by_cases hr : raiseOk O.V p = true
  · rw [if_pos hr]; exact ⟨h.v.raise O.D p, h.cl, by show (O.heard.set p.toNat 0).length = 12; rw [List.length_set]; exact h.hl, h.r⟩
  · rw [if_neg hr]; exact h
theorem OOK.lower (h : OOK O) (p : Int) : OOK (lowerO O p) := by
  unfold lowerO
  by_cases hr : memB O.V.a p = true
  · rw [if_pos hr]; exact ⟨h.v.lower O.D p, h.cl, h.hl, h.r⟩
  · rw [if_neg hr]; exact h

theorem raiseOk_nat {V : VV} (h : raiseOk V p = true) : ∃ j : Nat, p = j ∧ j < 12 := by
  unfold raiseOk at h
  simp only [Bool.and_eq_true] at h
  obtain ⟨q0, q1⟩ := nodeB_iff.1 h.1.1
  exact ⟨p.toNat, by omega, by omega⟩

set_option maxRecDepth 100000 in
set_option maxHeartbeats 4000000 in
theorem oraise_c (st : St W w (OvA b d O :: R)) (h : OOK O) (hL : O.L.length ≤ 4000) (hC : O.C.length ≤ 4000) (K : ∀ w', St W w' (OvA b d (raiseO O p) :: R) → post (.returned (.tuple #[])) w') :
    Calls Tryz.prog 43 #[.pointer (some ⟨b, 0, none⟩), .int .i64 p] w post := by
  have HK := hid K; clear K
  obtain ⟨v, s⟩ := OvA.open st
  have HV := hid h.v
  have HH := hid h.hl
  have s1 := s.drew
  have g0 := row1c s1
  have g1 := row1c (St.pick 3 s1)
  unfold raiseO at HK
  obtain ⟨z, hz⟩ : ∃ z, raiseOk O.V p = z := ⟨_, rfl⟩
  rw [hz] at HK
  have HZ := hid hz
  clear h
  cases z with
  | false =>
    simp only [Bool.false_eq_true, if_false] at HK
    clear hz
    go_enter Tryz.func43, Tryz.ntmps43
    go_wp2_with fail
    go_region_law (go_simp; go_at_call 85; refine raise_no (s1.perm [6, 6]) HZ.out ?_)
    all_goals
      go_wp2_with fail
      go_end0
      exact HK.out _ (OvA.close (O := O) s1)
  | true =>
    simp only [if_true] at HK
    obtain ⟨j, rfl, hj⟩ := raiseOk_nat hz
    have hj2 : (j : Int) < 12 := by omega
    obtain ⟨g, hg⟩ : ∃ g, raiseG O.V O.D = g := ⟨_, rfl⟩
    rw [hg] at HK
    have HG := hid hg
    clear hz hg
    by_cases h0 : 0 ≤ g
    · simp only [h0, if_true] at HK
      go_enter Tryz.func43, Tryz.ntmps43
      go_wp2_with fail
      go_region_law (go_simp; go_at_call 85; refine raise_yes (s1.perm [6, 6]) HV.out HZ.out ?_; rintro w2 s2; rw [HG.out]; have g2 := row1c (St.pick 2 s2))
      all_goals
        go_wp2_with (first
          | (go_at_call 44; refine send_c (m := kindM 6) ((OwnS.none0 (sz := 1) s2).perm [4, 0]) (by omega) ?_; rintro w3 s3)
          | (go_at_call 86; first
              | (refine turn_c s4 (by simp; omega) ?_; rintro w5 s5
                 have hc5 := cfg_off (St.pick 6 s5) (i := j) (by rw [HH.out]; exact hj)
                 have hf5 := (St.pick 6 s5).rowFree (i := j) (by rw [ivs_length, HH.out]; exact hj))
              | (refine turn_c s3 (by omega) ?_; rintro w4 s4)))
        go_end0
        have s6 := (St.pick 6 s5).rowSet (i := j) (by rw [ivs_length, HH.out]; exact hj) (.int .i64 0)
        rw [show (ivs O.heard).set j (.int .i64 0) = ivs (O.heard.set j 0) from by simp [ivs, List.map_set]] at s6
        exact HK.out _ (OvA.close (O := { O with V := raiseV O.V O.D j, D := raiseD O.V O.D j, L := O.L ++ [⟨g, kindM 6⟩], C := O.C ++ [(g, false)] ++ [((j : Int), true)], heard := O.heard.set j 0 }) (s6.perm [4, 1, 3, 3, 0, 2, 0, 0]))
    · simp only [h0, if_false] at HK
      go_enter Tryz.func43, Tryz.ntmps43
      go_wp2_with fail
      go_region_law (go_simp; go_at_call 85; refine raise_yes (s1.perm [6, 6]) HV.out HZ.out ?_; rintro w2 s2; rw [HG.out]; have g2 := row1c (St.pick 2 s2))
      all_goals
        go_wp2_with (go_at_call 86; refine turn_c (St.pick 3 s2) (by omega) ?_; rintro w5 s5
                     have hc5 := cfg_off (St.pick 6 s5) (i := j) (by rw [HH.out]; exact hj)
                     have hf5 := (St.pick 6 s5).rowFree (i := j) (by rw [ivs_length, HH.out]; exact hj))
        go_end0
        have s6 := (St.pick 6 s5).rowSet (i := j) (by rw [ivs_length, HH.out]; exact hj) (.int .i64 0)
        rw [show (ivs O.heard).set j (.int .i64 0) = ivs (O.heard.set j 0) from by simp [ivs, List.map_set]] at s6
        exact HK.out _ (OvA.close (O := { O with V := raiseV O.V O.D j, D := raiseD O.V O.D j, C := O.C ++ [((j : Int), true)], heard := O.heard.set j 0 }) (s6.perm [4, 1, 3, 3, 0, 2, 0, 0]))

end

end Go.Proofs.YtbpdchaeakihkaaGreat
