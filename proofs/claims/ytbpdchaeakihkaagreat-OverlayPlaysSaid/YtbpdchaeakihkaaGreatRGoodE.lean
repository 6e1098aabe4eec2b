/- The document's Check of entries. Printed by mkRGoodB.py. -/
import Derived.Test.YtbpdchaeakihkaaGreatRGoodB
import Derived.Deep.DeepCutAuto
namespace Go.Proofs.YtbpdchaeakihkaaGreat
open Go.RowKit Go.Qd
attribute [local go_sem ↓] execOp_ldAny execOp_neS
attribute [local go_sem] run_neS

section
variable {W w : World} {R : List HP} {post : Ending → World → Prop}

set_option maxRecDepth 100000 in
set_option maxHeartbeats 16000000 in
theorem rcheckE_c {e : EnV} (st : St W w R) (K : ∀ w', St W w' R → post (.returned (.int .i64 (rcheckE e))) w') : Calls Tryz.prog 66 #[.agg e.cells.toArray] w post := by
  unfold rcheckE at K
  obtain ⟨k1, hk1⟩ : ∃ b, decide ((e.key.size : Int) < 1) = b := ⟨_, rfl⟩
  obtain ⟨k2, hk2⟩ : ∃ b, decide (16 < (e.key.size : Int)) = b := ⟨_, rfl⟩
  obtain ⟨v1, hv1⟩ : ∃ b, decide (32 < (e.val.size : Int)) = b := ⟨_, rfl⟩
  obtain ⟨v2, hv2⟩ : ∃ b, decide (0 < e.val.size) = b := ⟨_, rfl⟩
  have hv3 : lenB e.val = v2 := hv2
  obtain ⟨g1, hg1⟩ : ∃ b, stampB e.sc e.ss = b := ⟨_, rfl⟩
  obtain ⟨g2, hg2⟩ : ∃ b, stampB e.ac e.az = b := ⟨_, rfl⟩
  obtain ⟨zb, hz⟩ : ∃ z, laterB e.sc e.ss e.ac e.az = z := ⟨_, rfl⟩
  obtain ⟨p0, q0⟩ : ∃ b, eq2B e.ac e.az e.sc e.ss = b := ⟨_, rfl⟩
  obtain ⟨p3, q3⟩ : ∃ b, (e.kp == 0) = b := ⟨_, rfl⟩
  obtain ⟨p4, q4⟩ : ∃ b, (e.age == 0) = b := ⟨_, rfl⟩
  obtain ⟨m1, n1⟩ : ∃ b, decide (1 ≤ e.kp) = b := ⟨_, rfl⟩
  obtain ⟨m2, n2⟩ : ∃ b, decide (e.kp ≤ 4095) = b := ⟨_, rfl⟩
  obtain ⟨m3, n3⟩ : ∃ b, decide (0 ≤ e.age) = b := ⟨_, rfl⟩
  obtain ⟨m4, n4⟩ : ∃ b, decide (e.age ≤ 2147483647) = b := ⟨_, rfl⟩
  obtain ⟨dd, hdd⟩ : ∃ b, e.dead = b := ⟨_, rfl⟩
  unfold keptB at K
  rw [plain_eq2, hk1, hk2, hv1, hv3, hg1, hg2, hz, q0, q3, q4, n1, n2, n3, n4, hdd] at K
  have HG1 := hid hg1; have HG2 := hid hg2; have HZ := hid hz; have HDD := hid hdd
  have j1 : decide (e.kp < 1) = !m1 := by rw [← n1]; by_cases h : 1 ≤ e.kp; (rw [decide_eq_true h, decide_eq_false (by omega)]; rfl); (rw [decide_eq_false h, decide_eq_true (by omega)]; rfl)
  have j2 : decide (4095 < e.kp) = !m2 := by rw [← n2]; by_cases h : e.kp ≤ 4095; (rw [decide_eq_true h, decide_eq_false (by omega)]; rfl); (rw [decide_eq_false h, decide_eq_true (by omega)]; rfl)
  have j3 : decide (e.age < 0) = !m3 := by rw [← n3]; by_cases h : 0 ≤ e.age; (rw [decide_eq_true h, decide_eq_false (by omega)]; rfl); (rw [decide_eq_false h, decide_eq_true (by omega)]; rfl)
  have j4 : decide (2147483647 < e.age) = !m4 := by rw [← n4]; by_cases h : e.age ≤ 2147483647; (rw [decide_eq_true h, decide_eq_false (by omega)]; rfl); (rw [decide_eq_false h, decide_eq_true (by omega)]; rfl)
  have i3 : (e.kp != 0) = !p3 := by rw [← q3]; rfl
  have i4 : (e.age != 0) = !p4 := by rw [← q4]; rfl
  clear hg1 hg2 hz hdd hv3 n1 n2 n3 n4 q3 q4
  cases k1 with
  | true =>
    replace K : ∀ w', St W w' R → post (.returned (.int .i64 9)) w' := K
    have HK := hid K; clear K
    go_enter Tryz.func66, Tryz.ntmps66
    go_upto_region 1 with (refine wpl_boxA (vs := e.cells) rfl (.tmp 0) rfl rfl st ?_; rintro T w1 s1; obtain ⟨c0, c1, c2, c3, c4, c5, c6⟩ := enLOf s1; rw [HDD.out] at c2)
    go_wp2_with (first
      | (go_at_call 110; refine rlater_c s1 ?_; rw [HZ.out]; clear c0 c1 c2 c3 c4 c5 c6 s1; rintro w1 s1; obtain ⟨c0, c1, c2, c3, c4, c5, c6⟩ := enLOf s1; rw [HDD.out] at c2)
      | (go_at_call 109; refine rstGood_c s1 ?_; (first | rw [HG1.out] | rw [HG2.out]); clear c0 c1 c2 c3 c4 c5 c6 s1; rintro w1 s1; obtain ⟨c0, c1, c2, c3, c4, c5, c6⟩ := enLOf s1; rw [HDD.out] at c2))
    exact HK.out _ s1.drop
  | false =>
    cases k2 with
    | true =>
      replace K : ∀ w', St W w' R → post (.returned (.int .i64 9)) w' := K
      have HK := hid K; clear K
      go_enter Tryz.func66, Tryz.ntmps66
      go_upto_region 1 with (refine wpl_boxA (vs := e.cells) rfl (.tmp 0) rfl rfl st ?_; rintro T w1 s1; obtain ⟨c0, c1, c2, c3, c4, c5, c6⟩ := enLOf s1; rw [HDD.out] at c2)
      go_wp2_with (first
        | (go_at_call 110; refine rlater_c s1 ?_; rw [HZ.out]; clear c0 c1 c2 c3 c4 c5 c6 s1; rintro w1 s1; obtain ⟨c0, c1, c2, c3, c4, c5, c6⟩ := enLOf s1; rw [HDD.out] at c2)
        | (go_at_call 109; refine rstGood_c s1 ?_; (first | rw [HG1.out] | rw [HG2.out]); clear c0 c1 c2 c3 c4 c5 c6 s1; rintro w1 s1; obtain ⟨c0, c1, c2, c3, c4, c5, c6⟩ := enLOf s1; rw [HDD.out] at c2))
      exact HK.out _ s1.drop
    | false =>
      cases v1 with
      | true =>
        replace K : ∀ w', St W w' R → post (.returned (.int .i64 10)) w' := K
        have HK := hid K; clear K
        go_enter Tryz.func66, Tryz.ntmps66
        go_upto_region 1 with (refine wpl_boxA (vs := e.cells) rfl (.tmp 0) rfl rfl st ?_; rintro T w1 s1; obtain ⟨c0, c1, c2, c3, c4, c5, c6⟩ := enLOf s1; rw [HDD.out] at c2)
        go_wp2_with (first
          | (go_at_call 110; refine rlater_c s1 ?_; rw [HZ.out]; clear c0 c1 c2 c3 c4 c5 c6 s1; rintro w1 s1; obtain ⟨c0, c1, c2, c3, c4, c5, c6⟩ := enLOf s1; rw [HDD.out] at c2)
          | (go_at_call 109; refine rstGood_c s1 ?_; (first | rw [HG1.out] | rw [HG2.out]); clear c0 c1 c2 c3 c4 c5 c6 s1; rintro w1 s1; obtain ⟨c0, c1, c2, c3, c4, c5, c6⟩ := enLOf s1; rw [HDD.out] at c2))
        exact HK.out _ s1.drop
      | false =>
        cases dd with
        | true =>
          cases v2 with
          | true =>
            replace K : ∀ w', St W w' R → post (.returned (.int .i64 10)) w' := K
            have HK := hid K; clear K
            go_enter Tryz.func66, Tryz.ntmps66
            go_upto_region 1 with (refine wpl_boxA (vs := e.cells) rfl (.tmp 0) rfl rfl st ?_; rintro T w1 s1; obtain ⟨c0, c1, c2, c3, c4, c5, c6⟩ := enLOf s1; rw [HDD.out] at c2)
            go_wp2_with (first
              | (go_at_call 110; refine rlater_c s1 ?_; rw [HZ.out]; clear c0 c1 c2 c3 c4 c5 c6 s1; rintro w1 s1; obtain ⟨c0, c1, c2, c3, c4, c5, c6⟩ := enLOf s1; rw [HDD.out] at c2)
              | (go_at_call 109; refine rstGood_c s1 ?_; (first | rw [HG1.out] | rw [HG2.out]); clear c0 c1 c2 c3 c4 c5 c6 s1; rintro w1 s1; obtain ⟨c0, c1, c2, c3, c4, c5, c6⟩ := enLOf s1; rw [HDD.out] at c2))
            exact HK.out _ s1.drop
          | false =>
            cases g1 with
            | false =>
              replace K : ∀ w', St W w' R → post (.returned (.int .i64 1)) w' := K
              have HK := hid K; clear K
              go_enter Tryz.func66, Tryz.ntmps66
              go_upto_region 1 with (refine wpl_boxA (vs := e.cells) rfl (.tmp 0) rfl rfl st ?_; rintro T w1 s1; obtain ⟨c0, c1, c2, c3, c4, c5, c6⟩ := enLOf s1; rw [HDD.out] at c2)
              go_wp2_with (first
                | (go_at_call 110; refine rlater_c s1 ?_; rw [HZ.out]; clear c0 c1 c2 c3 c4 c5 c6 s1; rintro w1 s1; obtain ⟨c0, c1, c2, c3, c4, c5, c6⟩ := enLOf s1; rw [HDD.out] at c2)
                | (go_at_call 109; refine rstGood_c s1 ?_; (first | rw [HG1.out] | rw [HG2.out]); clear c0 c1 c2 c3 c4 c5 c6 s1; rintro w1 s1; obtain ⟨c0, c1, c2, c3, c4, c5, c6⟩ := enLOf s1; rw [HDD.out] at c2))
              exact HK.out _ s1.drop
            | true =>
              cases g2 with
              | false =>
                replace K : ∀ w', St W w' R → post (.returned (.int .i64 1)) w' := K
                have HK := hid K; clear K
                go_enter Tryz.func66, Tryz.ntmps66
                go_upto_region 1 with (refine wpl_boxA (vs := e.cells) rfl (.tmp 0) rfl rfl st ?_; rintro T w1 s1; obtain ⟨c0, c1, c2, c3, c4, c5, c6⟩ := enLOf s1; rw [HDD.out] at c2)
                go_wp2_with (first
                  | (go_at_call 110; refine rlater_c s1 ?_; rw [HZ.out]; clear c0 c1 c2 c3 c4 c5 c6 s1; rintro w1 s1; obtain ⟨c0, c1, c2, c3, c4, c5, c6⟩ := enLOf s1; rw [HDD.out] at c2)
                  | (go_at_call 109; refine rstGood_c s1 ?_; (first | rw [HG1.out] | rw [HG2.out]); clear c0 c1 c2 c3 c4 c5 c6 s1; rintro w1 s1; obtain ⟨c0, c1, c2, c3, c4, c5, c6⟩ := enLOf s1; rw [HDD.out] at c2))
                exact HK.out _ s1.drop
              | true =>
                cases zb with
                | true =>
                  replace K : ∀ w', St W w' R → post (.returned (.int .i64 1)) w' := K
                  have HK := hid K; clear K
                  go_enter Tryz.func66, Tryz.ntmps66
                  go_upto_region 1 with (refine wpl_boxA (vs := e.cells) rfl (.tmp 0) rfl rfl st ?_; rintro T w1 s1; obtain ⟨c0, c1, c2, c3, c4, c5, c6⟩ := enLOf s1; rw [HDD.out] at c2)
                  go_wp2_with (first
                    | (go_at_call 110; refine rlater_c s1 ?_; rw [HZ.out]; clear c0 c1 c2 c3 c4 c5 c6 s1; rintro w1 s1; obtain ⟨c0, c1, c2, c3, c4, c5, c6⟩ := enLOf s1; rw [HDD.out] at c2)
                    | (go_at_call 109; refine rstGood_c s1 ?_; (first | rw [HG1.out] | rw [HG2.out]); clear c0 c1 c2 c3 c4 c5 c6 s1; rintro w1 s1; obtain ⟨c0, c1, c2, c3, c4, c5, c6⟩ := enLOf s1; rw [HDD.out] at c2))
                  exact HK.out _ s1.drop
                | false =>
                  cases m1 with
                  | false =>
                    replace K : ∀ w', St W w' R → post (.returned (.int .i64 1)) w' := K
                    have HK := hid K; clear K
                    go_enter Tryz.func66, Tryz.ntmps66
                    go_upto_region 1 with (refine wpl_boxA (vs := e.cells) rfl (.tmp 0) rfl rfl st ?_; rintro T w1 s1; obtain ⟨c0, c1, c2, c3, c4, c5, c6⟩ := enLOf s1; rw [HDD.out] at c2)
                    go_wp2_with (first
                      | (go_at_call 110; refine rlater_c s1 ?_; rw [HZ.out]; clear c0 c1 c2 c3 c4 c5 c6 s1; rintro w1 s1; obtain ⟨c0, c1, c2, c3, c4, c5, c6⟩ := enLOf s1; rw [HDD.out] at c2)
                      | (go_at_call 109; refine rstGood_c s1 ?_; (first | rw [HG1.out] | rw [HG2.out]); clear c0 c1 c2 c3 c4 c5 c6 s1; rintro w1 s1; obtain ⟨c0, c1, c2, c3, c4, c5, c6⟩ := enLOf s1; rw [HDD.out] at c2))
                    exact HK.out _ s1.drop
                  | true =>
                    cases m2 with
                    | false =>
                      replace K : ∀ w', St W w' R → post (.returned (.int .i64 1)) w' := K
                      have HK := hid K; clear K
                      go_enter Tryz.func66, Tryz.ntmps66
                      go_upto_region 1 with (refine wpl_boxA (vs := e.cells) rfl (.tmp 0) rfl rfl st ?_; rintro T w1 s1; obtain ⟨c0, c1, c2, c3, c4, c5, c6⟩ := enLOf s1; rw [HDD.out] at c2)
                      go_wp2_with (first
                        | (go_at_call 110; refine rlater_c s1 ?_; rw [HZ.out]; clear c0 c1 c2 c3 c4 c5 c6 s1; rintro w1 s1; obtain ⟨c0, c1, c2, c3, c4, c5, c6⟩ := enLOf s1; rw [HDD.out] at c2)
                        | (go_at_call 109; refine rstGood_c s1 ?_; (first | rw [HG1.out] | rw [HG2.out]); clear c0 c1 c2 c3 c4 c5 c6 s1; rintro w1 s1; obtain ⟨c0, c1, c2, c3, c4, c5, c6⟩ := enLOf s1; rw [HDD.out] at c2))
                      exact HK.out _ s1.drop
                    | true =>
                      cases m3 with
                      | false =>
                        replace K : ∀ w', St W w' R → post (.returned (.int .i64 1)) w' := K
                        have HK := hid K; clear K
                        go_enter Tryz.func66, Tryz.ntmps66
                        go_upto_region 1 with (refine wpl_boxA (vs := e.cells) rfl (.tmp 0) rfl rfl st ?_; rintro T w1 s1; obtain ⟨c0, c1, c2, c3, c4, c5, c6⟩ := enLOf s1; rw [HDD.out] at c2)
                        go_wp2_with (first
                          | (go_at_call 110; refine rlater_c s1 ?_; rw [HZ.out]; clear c0 c1 c2 c3 c4 c5 c6 s1; rintro w1 s1; obtain ⟨c0, c1, c2, c3, c4, c5, c6⟩ := enLOf s1; rw [HDD.out] at c2)
                          | (go_at_call 109; refine rstGood_c s1 ?_; (first | rw [HG1.out] | rw [HG2.out]); clear c0 c1 c2 c3 c4 c5 c6 s1; rintro w1 s1; obtain ⟨c0, c1, c2, c3, c4, c5, c6⟩ := enLOf s1; rw [HDD.out] at c2))
                        exact HK.out _ s1.drop
                      | true =>
                        cases m4 with
                        | false =>
                          replace K : ∀ w', St W w' R → post (.returned (.int .i64 1)) w' := K
                          have HK := hid K; clear K
                          go_enter Tryz.func66, Tryz.ntmps66
                          go_upto_region 1 with (refine wpl_boxA (vs := e.cells) rfl (.tmp 0) rfl rfl st ?_; rintro T w1 s1; obtain ⟨c0, c1, c2, c3, c4, c5, c6⟩ := enLOf s1; rw [HDD.out] at c2)
                          go_wp2_with (first
                            | (go_at_call 110; refine rlater_c s1 ?_; rw [HZ.out]; clear c0 c1 c2 c3 c4 c5 c6 s1; rintro w1 s1; obtain ⟨c0, c1, c2, c3, c4, c5, c6⟩ := enLOf s1; rw [HDD.out] at c2)
                            | (go_at_call 109; refine rstGood_c s1 ?_; (first | rw [HG1.out] | rw [HG2.out]); clear c0 c1 c2 c3 c4 c5 c6 s1; rintro w1 s1; obtain ⟨c0, c1, c2, c3, c4, c5, c6⟩ := enLOf s1; rw [HDD.out] at c2))
                          exact HK.out _ s1.drop
                        | true =>
                          replace K : ∀ w', St W w' R → post (.returned (.int .i64 0)) w' := K
                          have HK := hid K; clear K
                          go_enter Tryz.func66, Tryz.ntmps66
                          go_upto_region 1 with (refine wpl_boxA (vs := e.cells) rfl (.tmp 0) rfl rfl st ?_; rintro T w1 s1; obtain ⟨c0, c1, c2, c3, c4, c5, c6⟩ := enLOf s1; rw [HDD.out] at c2)
                          go_wp2_with (first
                            | (go_at_call 110; refine rlater_c s1 ?_; rw [HZ.out]; clear c0 c1 c2 c3 c4 c5 c6 s1; rintro w1 s1; obtain ⟨c0, c1, c2, c3, c4, c5, c6⟩ := enLOf s1; rw [HDD.out] at c2)
                            | (go_at_call 109; refine rstGood_c s1 ?_; (first | rw [HG1.out] | rw [HG2.out]); clear c0 c1 c2 c3 c4 c5 c6 s1; rintro w1 s1; obtain ⟨c0, c1, c2, c3, c4, c5, c6⟩ := enLOf s1; rw [HDD.out] at c2))
                          exact HK.out _ s1.drop
        | false =>
          cases g1 with
          | false =>
            replace K : ∀ w', St W w' R → post (.returned (.int .i64 1)) w' := K
            have HK := hid K; clear K
            go_enter Tryz.func66, Tryz.ntmps66
            go_upto_region 1 with (refine wpl_boxA (vs := e.cells) rfl (.tmp 0) rfl rfl st ?_; rintro T w1 s1; obtain ⟨c0, c1, c2, c3, c4, c5, c6⟩ := enLOf s1; rw [HDD.out] at c2)
            go_wp2_with (first
              | (go_at_call 110; refine rlater_c s1 ?_; rw [HZ.out]; clear c0 c1 c2 c3 c4 c5 c6 s1; rintro w1 s1; obtain ⟨c0, c1, c2, c3, c4, c5, c6⟩ := enLOf s1; rw [HDD.out] at c2)
              | (go_at_call 109; refine rstGood_c s1 ?_; (first | rw [HG1.out] | rw [HG2.out]); clear c0 c1 c2 c3 c4 c5 c6 s1; rintro w1 s1; obtain ⟨c0, c1, c2, c3, c4, c5, c6⟩ := enLOf s1; rw [HDD.out] at c2))
            exact HK.out _ s1.drop
          | true =>
            cases g2 with
            | false =>
              replace K : ∀ w', St W w' R → post (.returned (.int .i64 1)) w' := K
              have HK := hid K; clear K
              go_enter Tryz.func66, Tryz.ntmps66
              go_upto_region 1 with (refine wpl_boxA (vs := e.cells) rfl (.tmp 0) rfl rfl st ?_; rintro T w1 s1; obtain ⟨c0, c1, c2, c3, c4, c5, c6⟩ := enLOf s1; rw [HDD.out] at c2)
              go_wp2_with (first
                | (go_at_call 110; refine rlater_c s1 ?_; rw [HZ.out]; clear c0 c1 c2 c3 c4 c5 c6 s1; rintro w1 s1; obtain ⟨c0, c1, c2, c3, c4, c5, c6⟩ := enLOf s1; rw [HDD.out] at c2)
                | (go_at_call 109; refine rstGood_c s1 ?_; (first | rw [HG1.out] | rw [HG2.out]); clear c0 c1 c2 c3 c4 c5 c6 s1; rintro w1 s1; obtain ⟨c0, c1, c2, c3, c4, c5, c6⟩ := enLOf s1; rw [HDD.out] at c2))
              exact HK.out _ s1.drop
            | true =>
              cases zb with
              | true =>
                replace K : ∀ w', St W w' R → post (.returned (.int .i64 1)) w' := K
                have HK := hid K; clear K
                go_enter Tryz.func66, Tryz.ntmps66
                go_upto_region 1 with (refine wpl_boxA (vs := e.cells) rfl (.tmp 0) rfl rfl st ?_; rintro T w1 s1; obtain ⟨c0, c1, c2, c3, c4, c5, c6⟩ := enLOf s1; rw [HDD.out] at c2)
                go_wp2_with (first
                  | (go_at_call 110; refine rlater_c s1 ?_; rw [HZ.out]; clear c0 c1 c2 c3 c4 c5 c6 s1; rintro w1 s1; obtain ⟨c0, c1, c2, c3, c4, c5, c6⟩ := enLOf s1; rw [HDD.out] at c2)
                  | (go_at_call 109; refine rstGood_c s1 ?_; (first | rw [HG1.out] | rw [HG2.out]); clear c0 c1 c2 c3 c4 c5 c6 s1; rintro w1 s1; obtain ⟨c0, c1, c2, c3, c4, c5, c6⟩ := enLOf s1; rw [HDD.out] at c2))
                exact HK.out _ s1.drop
              | false =>
                cases p0 with
                | false =>
                  replace K : ∀ w', St W w' R → post (.returned (.int .i64 1)) w' := K
                  have HK := hid K; clear K
                  go_enter Tryz.func66, Tryz.ntmps66
                  go_upto_region 1 with (refine wpl_boxA (vs := e.cells) rfl (.tmp 0) rfl rfl st ?_; rintro T w1 s1; obtain ⟨c0, c1, c2, c3, c4, c5, c6⟩ := enLOf s1; rw [HDD.out] at c2)
                  go_wp2_with (first
                    | (go_at_call 110; refine rlater_c s1 ?_; rw [HZ.out]; clear c0 c1 c2 c3 c4 c5 c6 s1; rintro w1 s1; obtain ⟨c0, c1, c2, c3, c4, c5, c6⟩ := enLOf s1; rw [HDD.out] at c2)
                    | (go_at_call 109; refine rstGood_c s1 ?_; (first | rw [HG1.out] | rw [HG2.out]); clear c0 c1 c2 c3 c4 c5 c6 s1; rintro w1 s1; obtain ⟨c0, c1, c2, c3, c4, c5, c6⟩ := enLOf s1; rw [HDD.out] at c2))
                  exact HK.out _ s1.drop
                | true =>
                  cases p3 with
                  | false =>
                    replace K : ∀ w', St W w' R → post (.returned (.int .i64 1)) w' := K
                    have HK := hid K; clear K
                    go_enter Tryz.func66, Tryz.ntmps66
                    go_upto_region 1 with (refine wpl_boxA (vs := e.cells) rfl (.tmp 0) rfl rfl st ?_; rintro T w1 s1; obtain ⟨c0, c1, c2, c3, c4, c5, c6⟩ := enLOf s1; rw [HDD.out] at c2)
                    go_wp2_with (first
                      | (go_at_call 110; refine rlater_c s1 ?_; rw [HZ.out]; clear c0 c1 c2 c3 c4 c5 c6 s1; rintro w1 s1; obtain ⟨c0, c1, c2, c3, c4, c5, c6⟩ := enLOf s1; rw [HDD.out] at c2)
                      | (go_at_call 109; refine rstGood_c s1 ?_; (first | rw [HG1.out] | rw [HG2.out]); clear c0 c1 c2 c3 c4 c5 c6 s1; rintro w1 s1; obtain ⟨c0, c1, c2, c3, c4, c5, c6⟩ := enLOf s1; rw [HDD.out] at c2))
                    exact HK.out _ s1.drop
                  | true =>
                    cases p4 with
                    | false =>
                      replace K : ∀ w', St W w' R → post (.returned (.int .i64 1)) w' := K
                      have HK := hid K; clear K
                      go_enter Tryz.func66, Tryz.ntmps66
                      go_upto_region 1 with (refine wpl_boxA (vs := e.cells) rfl (.tmp 0) rfl rfl st ?_; rintro T w1 s1; obtain ⟨c0, c1, c2, c3, c4, c5, c6⟩ := enLOf s1; rw [HDD.out] at c2)
                      go_wp2_with (first
                        | (go_at_call 110; refine rlater_c s1 ?_; rw [HZ.out]; clear c0 c1 c2 c3 c4 c5 c6 s1; rintro w1 s1; obtain ⟨c0, c1, c2, c3, c4, c5, c6⟩ := enLOf s1; rw [HDD.out] at c2)
                        | (go_at_call 109; refine rstGood_c s1 ?_; (first | rw [HG1.out] | rw [HG2.out]); clear c0 c1 c2 c3 c4 c5 c6 s1; rintro w1 s1; obtain ⟨c0, c1, c2, c3, c4, c5, c6⟩ := enLOf s1; rw [HDD.out] at c2))
                      exact HK.out _ s1.drop
                    | true =>
                      replace K : ∀ w', St W w' R → post (.returned (.int .i64 0)) w' := K
                      have HK := hid K; clear K
                      go_enter Tryz.func66, Tryz.ntmps66
                      go_upto_region 1 with (refine wpl_boxA (vs := e.cells) rfl (.tmp 0) rfl rfl st ?_; rintro T w1 s1; obtain ⟨c0, c1, c2, c3, c4, c5, c6⟩ := enLOf s1; rw [HDD.out] at c2)
                      go_wp2_with (first
                        | (go_at_call 110; refine rlater_c s1 ?_; rw [HZ.out]; clear c0 c1 c2 c3 c4 c5 c6 s1; rintro w1 s1; obtain ⟨c0, c1, c2, c3, c4, c5, c6⟩ := enLOf s1; rw [HDD.out] at c2)
                        | (go_at_call 109; refine rstGood_c s1 ?_; (first | rw [HG1.out] | rw [HG2.out]); clear c0 c1 c2 c3 c4 c5 c6 s1; rintro w1 s1; obtain ⟨c0, c1, c2, c3, c4, c5, c6⟩ := enLOf s1; rw [HDD.out] at c2))
                      exact HK.out _ s1.drop

/-- The two checks agree. -/
theorem rcheckE_eq (e : EnV) (h : lenB e.val = !nilB e.val) : rcheckE e = checkE e := by
  unfold rcheckE checkE
  rw [h, laterB_eq]
  cases e.dead <;> simp

end

end Go.Proofs.YtbpdchaeakihkaaGreat
