/- Marks: several texts, joined. Entries: Check; goodEntry. -/
import Derived.Test.YtojfjbbggpfijaaGreatDoorMarkA
import Derived.Test.YtojfjbbggpfijaaGreatDoorLib
namespace Go.Proofs.YtojfjbbggpfijaaGreatDoor
open Go.RowKit Go.Qd
attribute [local go_sem ↓] execOp_ldAny

def enF (e : EnV) : Bool := checkE e == 0

section
variable {W w : World} {R : List HP} {post : Ending → World → Prop} {e : EnV}

set_option maxRecDepth 100000 in
set_option maxHeartbeats 16000000 in
theorem check_c (st : St W w R) (K : ∀ w', St W w' R → post (.returned (.int .i64 (checkE e))) w') : Calls Tryz.prog 50 #[.agg e.cells.toArray] w post := by
  unfold checkE at K
  obtain ⟨k1, hk1⟩ : ∃ b, decide ((e.key.size : Int) < 1) = b := ⟨_, rfl⟩
  obtain ⟨k2, hk2⟩ : ∃ b, decide (16 < (e.key.size : Int)) = b := ⟨_, rfl⟩
  obtain ⟨v1, hv1⟩ : ∃ b, decide (32 < (e.val.size : Int)) = b := ⟨_, rfl⟩
  obtain ⟨v2, hv2⟩ : ∃ b, nilB e.val = b := ⟨_, rfl⟩
  obtain ⟨g1, hg1⟩ : ∃ b, stampB e.sc e.ss = b := ⟨_, rfl⟩
  obtain ⟨g2, hg2⟩ : ∃ b, stampB e.ac e.az = b := ⟨_, rfl⟩
  obtain ⟨z, hz⟩ : ∃ z, cmpS e.ac e.az e.sc e.ss = z := ⟨_, rfl⟩
  obtain ⟨pl, hpl⟩ : ∃ b, plainB e = b := ⟨_, rfl⟩
  obtain ⟨ke, hke⟩ : ∃ b, keptB e = b := ⟨_, rfl⟩
  obtain ⟨dd, hdd⟩ : ∃ b, e.dead = b := ⟨_, rfl⟩
  rw [hk1, hk2, hv1, hv2, hg1, hg2, hz, hpl, hke, hdd] at K
  obtain ⟨zb, hzb⟩ : ∃ b, decide (z < 0) = b := ⟨_, rfl⟩
  rw [hzb] at K
  have HG1 := hid hg1; have HG2 := hid hg2; have HZ := hid hz; have HPL := hid hpl; have HKE := hid hke; have HDD := hid hdd
  have HV2 := hid hv2
  unfold nilB at hv2
  clear hg1 hg2 hz hpl hke hdd
  cases k1 with
  | true =>
    replace K : ∀ w', St W w' R → post (.returned (.int .i64 9)) w' := K
    have HK := hid K; clear K
    go_enter Tryz.func50, Tryz.ntmps50
    go_wp2_with (first
      | (refine wpl_boxA (vs := e.cells) rfl (.tmp 0) rfl rfl st ?_; rintro T w1 s1; obtain ⟨c0, c1, c2, c3, c4, c5, c6, c7⟩ := enL s1; rw [HDD.out] at c2)
      | (go_at_call 101; refine plain_c s4 ?_; rintro w5 s5; obtain ⟨i0, i1, i2, i3, i4, i5, i6, i7⟩ := enL s5; rw [HDD.out] at i2; rw [HPL.out])
      | (go_at_call 102; refine kept_c s4 ?_; rintro w5 s5; rw [HKE.out])
      | (go_at_call 100; refine cmpS_c s3 ?_; rintro w4 s4; obtain ⟨f0, f1, f2, f3, f4, f5, f6, f7⟩ := enL s4; rw [HDD.out] at f2; rw [HZ.out])
      | (go_at_call 99; refine stampGood_c s2 ?_; rintro w3 s3; obtain ⟨e0, e1, e2, e3, e4, e5, e6, e7⟩ := enL s3; rw [HG2.out]; clear s2)
      | (go_at_call 99; refine stampGood_c s1 ?_; rintro w2 s2; obtain ⟨d0, d1, d2, d3, d4, d5, d6, d7⟩ := enL s2; rw [HG1.out]; clear s1))
    first
      | exact HK.out _ s5.drop
      | exact HK.out _ s4.drop
      | exact HK.out _ s3.drop
      | exact HK.out _ s2.drop
      | exact HK.out _ s1.drop
  | false =>
    cases k2 with
    | true =>
      replace K : ∀ w', St W w' R → post (.returned (.int .i64 9)) w' := K
      have HK := hid K; clear K
      go_enter Tryz.func50, Tryz.ntmps50
      go_wp2_with (first
        | (refine wpl_boxA (vs := e.cells) rfl (.tmp 0) rfl rfl st ?_; rintro T w1 s1; obtain ⟨c0, c1, c2, c3, c4, c5, c6, c7⟩ := enL s1; rw [HDD.out] at c2)
        | (go_at_call 101; refine plain_c s4 ?_; rintro w5 s5; obtain ⟨i0, i1, i2, i3, i4, i5, i6, i7⟩ := enL s5; rw [HDD.out] at i2; rw [HPL.out])
        | (go_at_call 102; refine kept_c s4 ?_; rintro w5 s5; rw [HKE.out])
        | (go_at_call 100; refine cmpS_c s3 ?_; rintro w4 s4; obtain ⟨f0, f1, f2, f3, f4, f5, f6, f7⟩ := enL s4; rw [HDD.out] at f2; rw [HZ.out])
        | (go_at_call 99; refine stampGood_c s2 ?_; rintro w3 s3; obtain ⟨e0, e1, e2, e3, e4, e5, e6, e7⟩ := enL s3; rw [HG2.out]; clear s2)
        | (go_at_call 99; refine stampGood_c s1 ?_; rintro w2 s2; obtain ⟨d0, d1, d2, d3, d4, d5, d6, d7⟩ := enL s2; rw [HG1.out]; clear s1))
      first
        | exact HK.out _ s5.drop
        | exact HK.out _ s4.drop
        | exact HK.out _ s3.drop
        | exact HK.out _ s2.drop
        | exact HK.out _ s1.drop
    | false =>
      cases v1 with
      | true =>
        replace K : ∀ w', St W w' R → post (.returned (.int .i64 10)) w' := K
        have HK := hid K; clear K
        go_enter Tryz.func50, Tryz.ntmps50
        go_wp2_with (first
          | (refine wpl_boxA (vs := e.cells) rfl (.tmp 0) rfl rfl st ?_; rintro T w1 s1; obtain ⟨c0, c1, c2, c3, c4, c5, c6, c7⟩ := enL s1; rw [HDD.out] at c2)
          | (go_at_call 101; refine plain_c s4 ?_; rintro w5 s5; obtain ⟨i0, i1, i2, i3, i4, i5, i6, i7⟩ := enL s5; rw [HDD.out] at i2; rw [HPL.out])
          | (go_at_call 102; refine kept_c s4 ?_; rintro w5 s5; rw [HKE.out])
          | (go_at_call 100; refine cmpS_c s3 ?_; rintro w4 s4; obtain ⟨f0, f1, f2, f3, f4, f5, f6, f7⟩ := enL s4; rw [HDD.out] at f2; rw [HZ.out])
          | (go_at_call 99; refine stampGood_c s2 ?_; rintro w3 s3; obtain ⟨e0, e1, e2, e3, e4, e5, e6, e7⟩ := enL s3; rw [HG2.out]; clear s2)
          | (go_at_call 99; refine stampGood_c s1 ?_; rintro w2 s2; obtain ⟨d0, d1, d2, d3, d4, d5, d6, d7⟩ := enL s2; rw [HG1.out]; clear s1))
        first
          | exact HK.out _ s5.drop
          | exact HK.out _ s4.drop
          | exact HK.out _ s3.drop
          | exact HK.out _ s2.drop
          | exact HK.out _ s1.drop
      | false =>
        cases dd with
        | true =>
          cases v2 with
          | false =>
            replace K : ∀ w', St W w' R → post (.returned (.int .i64 10)) w' := K
            have HK := hid K; clear K
            go_enter Tryz.func50, Tryz.ntmps50
            go_wp2_with (first
              | (refine wpl_boxA (vs := e.cells) rfl (.tmp 0) rfl rfl st ?_; rintro T w1 s1; obtain ⟨c0, c1, c2, c3, c4, c5, c6, c7⟩ := enL s1; rw [HDD.out] at c2)
              | (go_at_call 101; refine plain_c s4 ?_; rintro w5 s5; obtain ⟨i0, i1, i2, i3, i4, i5, i6, i7⟩ := enL s5; rw [HDD.out] at i2; rw [HPL.out])
              | (go_at_call 102; refine kept_c s4 ?_; rintro w5 s5; rw [HKE.out])
              | (go_at_call 100; refine cmpS_c s3 ?_; rintro w4 s4; obtain ⟨f0, f1, f2, f3, f4, f5, f6, f7⟩ := enL s4; rw [HDD.out] at f2; rw [HZ.out])
              | (go_at_call 99; refine stampGood_c s2 ?_; rintro w3 s3; obtain ⟨e0, e1, e2, e3, e4, e5, e6, e7⟩ := enL s3; rw [HG2.out]; clear s2)
              | (go_at_call 99; refine stampGood_c s1 ?_; rintro w2 s2; obtain ⟨d0, d1, d2, d3, d4, d5, d6, d7⟩ := enL s2; rw [HG1.out]; clear s1))
            first
              | exact HK.out _ s5.drop
              | exact HK.out _ s4.drop
              | exact HK.out _ s3.drop
              | exact HK.out _ s2.drop
              | exact HK.out _ s1.drop
          | true =>
            cases g1 with
            | false =>
              replace K : ∀ w', St W w' R → post (.returned (.int .i64 1)) w' := K
              have HK := hid K; clear K
              go_enter Tryz.func50, Tryz.ntmps50
              go_wp2_with (first
                | (refine wpl_boxA (vs := e.cells) rfl (.tmp 0) rfl rfl st ?_; rintro T w1 s1; obtain ⟨c0, c1, c2, c3, c4, c5, c6, c7⟩ := enL s1; rw [HDD.out] at c2)
                | (go_at_call 101; refine plain_c s4 ?_; rintro w5 s5; obtain ⟨i0, i1, i2, i3, i4, i5, i6, i7⟩ := enL s5; rw [HDD.out] at i2; rw [HPL.out])
                | (go_at_call 102; refine kept_c s4 ?_; rintro w5 s5; rw [HKE.out])
                | (go_at_call 100; refine cmpS_c s3 ?_; rintro w4 s4; obtain ⟨f0, f1, f2, f3, f4, f5, f6, f7⟩ := enL s4; rw [HDD.out] at f2; rw [HZ.out])
                | (go_at_call 99; refine stampGood_c s2 ?_; rintro w3 s3; obtain ⟨e0, e1, e2, e3, e4, e5, e6, e7⟩ := enL s3; rw [HG2.out]; clear s2)
                | (go_at_call 99; refine stampGood_c s1 ?_; rintro w2 s2; obtain ⟨d0, d1, d2, d3, d4, d5, d6, d7⟩ := enL s2; rw [HG1.out]; clear s1))
              first
                | exact HK.out _ s5.drop
                | exact HK.out _ s4.drop
                | exact HK.out _ s3.drop
                | exact HK.out _ s2.drop
                | exact HK.out _ s1.drop
            | true =>
              cases g2 with
              | false =>
                replace K : ∀ w', St W w' R → post (.returned (.int .i64 1)) w' := K
                have HK := hid K; clear K
                go_enter Tryz.func50, Tryz.ntmps50
                go_wp2_with (first
                  | (refine wpl_boxA (vs := e.cells) rfl (.tmp 0) rfl rfl st ?_; rintro T w1 s1; obtain ⟨c0, c1, c2, c3, c4, c5, c6, c7⟩ := enL s1; rw [HDD.out] at c2)
                  | (go_at_call 101; refine plain_c s4 ?_; rintro w5 s5; obtain ⟨i0, i1, i2, i3, i4, i5, i6, i7⟩ := enL s5; rw [HDD.out] at i2; rw [HPL.out])
                  | (go_at_call 102; refine kept_c s4 ?_; rintro w5 s5; rw [HKE.out])
                  | (go_at_call 100; refine cmpS_c s3 ?_; rintro w4 s4; obtain ⟨f0, f1, f2, f3, f4, f5, f6, f7⟩ := enL s4; rw [HDD.out] at f2; rw [HZ.out])
                  | (go_at_call 99; refine stampGood_c s2 ?_; rintro w3 s3; obtain ⟨e0, e1, e2, e3, e4, e5, e6, e7⟩ := enL s3; rw [HG2.out]; clear s2)
                  | (go_at_call 99; refine stampGood_c s1 ?_; rintro w2 s2; obtain ⟨d0, d1, d2, d3, d4, d5, d6, d7⟩ := enL s2; rw [HG1.out]; clear s1))
                first
                  | exact HK.out _ s5.drop
                  | exact HK.out _ s4.drop
                  | exact HK.out _ s3.drop
                  | exact HK.out _ s2.drop
                  | exact HK.out _ s1.drop
              | true =>
                cases zb with
                | true =>
                  replace K : ∀ w', St W w' R → post (.returned (.int .i64 1)) w' := K
                  have HK := hid K; clear K
                  go_enter Tryz.func50, Tryz.ntmps50
                  go_wp2_with (first
                    | (refine wpl_boxA (vs := e.cells) rfl (.tmp 0) rfl rfl st ?_; rintro T w1 s1; obtain ⟨c0, c1, c2, c3, c4, c5, c6, c7⟩ := enL s1; rw [HDD.out] at c2)
                    | (go_at_call 101; refine plain_c s4 ?_; rintro w5 s5; obtain ⟨i0, i1, i2, i3, i4, i5, i6, i7⟩ := enL s5; rw [HDD.out] at i2; rw [HPL.out])
                    | (go_at_call 102; refine kept_c s4 ?_; rintro w5 s5; rw [HKE.out])
                    | (go_at_call 100; refine cmpS_c s3 ?_; rintro w4 s4; obtain ⟨f0, f1, f2, f3, f4, f5, f6, f7⟩ := enL s4; rw [HDD.out] at f2; rw [HZ.out])
                    | (go_at_call 99; refine stampGood_c s2 ?_; rintro w3 s3; obtain ⟨e0, e1, e2, e3, e4, e5, e6, e7⟩ := enL s3; rw [HG2.out]; clear s2)
                    | (go_at_call 99; refine stampGood_c s1 ?_; rintro w2 s2; obtain ⟨d0, d1, d2, d3, d4, d5, d6, d7⟩ := enL s2; rw [HG1.out]; clear s1))
                  first
                    | exact HK.out _ s5.drop
                    | exact HK.out _ s4.drop
                    | exact HK.out _ s3.drop
                    | exact HK.out _ s2.drop
                    | exact HK.out _ s1.drop
                | false =>
                  cases ke with
                  | false =>
                    replace K : ∀ w', St W w' R → post (.returned (.int .i64 1)) w' := K
                    have HK := hid K; clear K
                    go_enter Tryz.func50, Tryz.ntmps50
                    go_wp2_with (first
                      | (refine wpl_boxA (vs := e.cells) rfl (.tmp 0) rfl rfl st ?_; rintro T w1 s1; obtain ⟨c0, c1, c2, c3, c4, c5, c6, c7⟩ := enL s1; rw [HDD.out] at c2)
                      | (go_at_call 101; refine plain_c s4 ?_; rintro w5 s5; obtain ⟨i0, i1, i2, i3, i4, i5, i6, i7⟩ := enL s5; rw [HDD.out] at i2; rw [HPL.out])
                      | (go_at_call 102; refine kept_c s4 ?_; rintro w5 s5; rw [HKE.out])
                      | (go_at_call 100; refine cmpS_c s3 ?_; rintro w4 s4; obtain ⟨f0, f1, f2, f3, f4, f5, f6, f7⟩ := enL s4; rw [HDD.out] at f2; rw [HZ.out])
                      | (go_at_call 99; refine stampGood_c s2 ?_; rintro w3 s3; obtain ⟨e0, e1, e2, e3, e4, e5, e6, e7⟩ := enL s3; rw [HG2.out]; clear s2)
                      | (go_at_call 99; refine stampGood_c s1 ?_; rintro w2 s2; obtain ⟨d0, d1, d2, d3, d4, d5, d6, d7⟩ := enL s2; rw [HG1.out]; clear s1))
                    first
                      | exact HK.out _ s5.drop
                      | exact HK.out _ s4.drop
                      | exact HK.out _ s3.drop
                      | exact HK.out _ s2.drop
                      | exact HK.out _ s1.drop
                  | true =>
                    replace K : ∀ w', St W w' R → post (.returned (.int .i64 0)) w' := K
                    have HK := hid K; clear K
                    go_enter Tryz.func50, Tryz.ntmps50
                    go_wp2_with (first
                      | (refine wpl_boxA (vs := e.cells) rfl (.tmp 0) rfl rfl st ?_; rintro T w1 s1; obtain ⟨c0, c1, c2, c3, c4, c5, c6, c7⟩ := enL s1; rw [HDD.out] at c2)
                      | (go_at_call 101; refine plain_c s4 ?_; rintro w5 s5; obtain ⟨i0, i1, i2, i3, i4, i5, i6, i7⟩ := enL s5; rw [HDD.out] at i2; rw [HPL.out])
                      | (go_at_call 102; refine kept_c s4 ?_; rintro w5 s5; rw [HKE.out])
                      | (go_at_call 100; refine cmpS_c s3 ?_; rintro w4 s4; obtain ⟨f0, f1, f2, f3, f4, f5, f6, f7⟩ := enL s4; rw [HDD.out] at f2; rw [HZ.out])
                      | (go_at_call 99; refine stampGood_c s2 ?_; rintro w3 s3; obtain ⟨e0, e1, e2, e3, e4, e5, e6, e7⟩ := enL s3; rw [HG2.out]; clear s2)
                      | (go_at_call 99; refine stampGood_c s1 ?_; rintro w2 s2; obtain ⟨d0, d1, d2, d3, d4, d5, d6, d7⟩ := enL s2; rw [HG1.out]; clear s1))
                    first
                      | exact HK.out _ s5.drop
                      | exact HK.out _ s4.drop
                      | exact HK.out _ s3.drop
                      | exact HK.out _ s2.drop
                      | exact HK.out _ s1.drop
        | false =>
          cases g1 with
          | false =>
            replace K : ∀ w', St W w' R → post (.returned (.int .i64 1)) w' := K
            have HK := hid K; clear K
            go_enter Tryz.func50, Tryz.ntmps50
            go_wp2_with (first
              | (refine wpl_boxA (vs := e.cells) rfl (.tmp 0) rfl rfl st ?_; rintro T w1 s1; obtain ⟨c0, c1, c2, c3, c4, c5, c6, c7⟩ := enL s1; rw [HDD.out] at c2)
              | (go_at_call 101; refine plain_c s4 ?_; rintro w5 s5; obtain ⟨i0, i1, i2, i3, i4, i5, i6, i7⟩ := enL s5; rw [HDD.out] at i2; rw [HPL.out])
              | (go_at_call 102; refine kept_c s4 ?_; rintro w5 s5; rw [HKE.out])
              | (go_at_call 100; refine cmpS_c s3 ?_; rintro w4 s4; obtain ⟨f0, f1, f2, f3, f4, f5, f6, f7⟩ := enL s4; rw [HDD.out] at f2; rw [HZ.out])
              | (go_at_call 99; refine stampGood_c s2 ?_; rintro w3 s3; obtain ⟨e0, e1, e2, e3, e4, e5, e6, e7⟩ := enL s3; rw [HG2.out]; clear s2)
              | (go_at_call 99; refine stampGood_c s1 ?_; rintro w2 s2; obtain ⟨d0, d1, d2, d3, d4, d5, d6, d7⟩ := enL s2; rw [HG1.out]; clear s1))
            first
              | exact HK.out _ s5.drop
              | exact HK.out _ s4.drop
              | exact HK.out _ s3.drop
              | exact HK.out _ s2.drop
              | exact HK.out _ s1.drop
          | true =>
            cases g2 with
            | false =>
              replace K : ∀ w', St W w' R → post (.returned (.int .i64 1)) w' := K
              have HK := hid K; clear K
              go_enter Tryz.func50, Tryz.ntmps50
              go_wp2_with (first
                | (refine wpl_boxA (vs := e.cells) rfl (.tmp 0) rfl rfl st ?_; rintro T w1 s1; obtain ⟨c0, c1, c2, c3, c4, c5, c6, c7⟩ := enL s1; rw [HDD.out] at c2)
                | (go_at_call 101; refine plain_c s4 ?_; rintro w5 s5; obtain ⟨i0, i1, i2, i3, i4, i5, i6, i7⟩ := enL s5; rw [HDD.out] at i2; rw [HPL.out])
                | (go_at_call 102; refine kept_c s4 ?_; rintro w5 s5; rw [HKE.out])
                | (go_at_call 100; refine cmpS_c s3 ?_; rintro w4 s4; obtain ⟨f0, f1, f2, f3, f4, f5, f6, f7⟩ := enL s4; rw [HDD.out] at f2; rw [HZ.out])
                | (go_at_call 99; refine stampGood_c s2 ?_; rintro w3 s3; obtain ⟨e0, e1, e2, e3, e4, e5, e6, e7⟩ := enL s3; rw [HG2.out]; clear s2)
                | (go_at_call 99; refine stampGood_c s1 ?_; rintro w2 s2; obtain ⟨d0, d1, d2, d3, d4, d5, d6, d7⟩ := enL s2; rw [HG1.out]; clear s1))
              first
                | exact HK.out _ s5.drop
                | exact HK.out _ s4.drop
                | exact HK.out _ s3.drop
                | exact HK.out _ s2.drop
                | exact HK.out _ s1.drop
            | true =>
              cases zb with
              | true =>
                replace K : ∀ w', St W w' R → post (.returned (.int .i64 1)) w' := K
                have HK := hid K; clear K
                go_enter Tryz.func50, Tryz.ntmps50
                go_wp2_with (first
                  | (refine wpl_boxA (vs := e.cells) rfl (.tmp 0) rfl rfl st ?_; rintro T w1 s1; obtain ⟨c0, c1, c2, c3, c4, c5, c6, c7⟩ := enL s1; rw [HDD.out] at c2)
                  | (go_at_call 101; refine plain_c s4 ?_; rintro w5 s5; obtain ⟨i0, i1, i2, i3, i4, i5, i6, i7⟩ := enL s5; rw [HDD.out] at i2; rw [HPL.out])
                  | (go_at_call 102; refine kept_c s4 ?_; rintro w5 s5; rw [HKE.out])
                  | (go_at_call 100; refine cmpS_c s3 ?_; rintro w4 s4; obtain ⟨f0, f1, f2, f3, f4, f5, f6, f7⟩ := enL s4; rw [HDD.out] at f2; rw [HZ.out])
                  | (go_at_call 99; refine stampGood_c s2 ?_; rintro w3 s3; obtain ⟨e0, e1, e2, e3, e4, e5, e6, e7⟩ := enL s3; rw [HG2.out]; clear s2)
                  | (go_at_call 99; refine stampGood_c s1 ?_; rintro w2 s2; obtain ⟨d0, d1, d2, d3, d4, d5, d6, d7⟩ := enL s2; rw [HG1.out]; clear s1))
                first
                  | exact HK.out _ s5.drop
                  | exact HK.out _ s4.drop
                  | exact HK.out _ s3.drop
                  | exact HK.out _ s2.drop
                  | exact HK.out _ s1.drop
              | false =>
                cases pl with
                | false =>
                  replace K : ∀ w', St W w' R → post (.returned (.int .i64 1)) w' := K
                  have HK := hid K; clear K
                  go_enter Tryz.func50, Tryz.ntmps50
                  go_wp2_with (first
                    | (refine wpl_boxA (vs := e.cells) rfl (.tmp 0) rfl rfl st ?_; rintro T w1 s1; obtain ⟨c0, c1, c2, c3, c4, c5, c6, c7⟩ := enL s1; rw [HDD.out] at c2)
                    | (go_at_call 101; refine plain_c s4 ?_; rintro w5 s5; obtain ⟨i0, i1, i2, i3, i4, i5, i6, i7⟩ := enL s5; rw [HDD.out] at i2; rw [HPL.out])
                    | (go_at_call 102; refine kept_c s4 ?_; rintro w5 s5; rw [HKE.out])
                    | (go_at_call 100; refine cmpS_c s3 ?_; rintro w4 s4; obtain ⟨f0, f1, f2, f3, f4, f5, f6, f7⟩ := enL s4; rw [HDD.out] at f2; rw [HZ.out])
                    | (go_at_call 99; refine stampGood_c s2 ?_; rintro w3 s3; obtain ⟨e0, e1, e2, e3, e4, e5, e6, e7⟩ := enL s3; rw [HG2.out]; clear s2)
                    | (go_at_call 99; refine stampGood_c s1 ?_; rintro w2 s2; obtain ⟨d0, d1, d2, d3, d4, d5, d6, d7⟩ := enL s2; rw [HG1.out]; clear s1))
                  first
                    | exact HK.out _ s5.drop
                    | exact HK.out _ s4.drop
                    | exact HK.out _ s3.drop
                    | exact HK.out _ s2.drop
                    | exact HK.out _ s1.drop
                | true =>
                  replace K : ∀ w', St W w' R → post (.returned (.int .i64 0)) w' := K
                  have HK := hid K; clear K
                  go_enter Tryz.func50, Tryz.ntmps50
                  go_wp2_with (first
                    | (refine wpl_boxA (vs := e.cells) rfl (.tmp 0) rfl rfl st ?_; rintro T w1 s1; obtain ⟨c0, c1, c2, c3, c4, c5, c6, c7⟩ := enL s1; rw [HDD.out] at c2)
                    | (go_at_call 101; refine plain_c s4 ?_; rintro w5 s5; obtain ⟨i0, i1, i2, i3, i4, i5, i6, i7⟩ := enL s5; rw [HDD.out] at i2; rw [HPL.out])
                    | (go_at_call 102; refine kept_c s4 ?_; rintro w5 s5; rw [HKE.out])
                    | (go_at_call 100; refine cmpS_c s3 ?_; rintro w4 s4; obtain ⟨f0, f1, f2, f3, f4, f5, f6, f7⟩ := enL s4; rw [HDD.out] at f2; rw [HZ.out])
                    | (go_at_call 99; refine stampGood_c s2 ?_; rintro w3 s3; obtain ⟨e0, e1, e2, e3, e4, e5, e6, e7⟩ := enL s3; rw [HG2.out]; clear s2)
                    | (go_at_call 99; refine stampGood_c s1 ?_; rintro w2 s2; obtain ⟨d0, d1, d2, d3, d4, d5, d6, d7⟩ := enL s2; rw [HG1.out]; clear s1))
                  first
                    | exact HK.out _ s5.drop
                    | exact HK.out _ s4.drop
                    | exact HK.out _ s3.drop
                    | exact HK.out _ s2.drop
                    | exact HK.out _ s1.drop

set_option maxRecDepth 100000 in
theorem goodEntry_c (st : St W w R) (K : ∀ w', St W w' R → post (.returned (.bool (enF e))) w') : Calls Tryz.prog 86 #[.agg e.cells.toArray] w post := by
  have HK := hid K; clear K
  go_enter Tryz.func86, Tryz.ntmps86
  go_wp2_with (first
    | (refine wpl_boxA (vs := e.cells) rfl (.tmp 0) rfl rfl st ?_; rintro T w1 s1; obtain ⟨c0, c1, c2, c3, c4, c5, c6, c7⟩ := enL s1)
    | (go_at_call 50; refine check_c s1 ?_; rintro w2 s2))
  exact HK.out _ s2.drop
end

end Go.Proofs.YtojfjbbggpfijaaGreatDoor

/- Lists of marks, of entries: may all of them be? Printed by mkMarkC.py. -/
namespace Go.Proofs.YtojfjbbggpfijaaGreatDoor
open Go.RowKit Go.Qd
attribute [local go_sem ↓] execOp_ldAny

def mkC (l : List MkV) : List Value := (l.map MkV.cells).flatten
def enC (l : List EnV) : List Value := (l.map EnV.cells).flatten
def two2 (x y : Int) : Value := .agg #[.int .i64 x, .int .i64 y]

theorem mkC_sz (l : List MkV) : (mkC l).length = l.length * 3 := by
  induction l with
  | nil => rfl
  | cons x l ih => show (x.cells ++ mkC l).length = _; rw [List.length_append, ih, List.length_cons]; simp [MkV.cells]; omega
theorem mkC_get {l : List MkV} {i : Nat} (hi : i < l.length) {j : Nat} {u : Value} (h : l[i].cells[j]? = some u) : (mkC l)[i * 3 + j]? = some u := by
  have hj : j < 3 := by
    rcases Nat.lt_or_ge j 3 with g | g
    · exact g
    · rw [List.getElem?_eq_none (by simpa [MkV.cells] using g)] at h; cases h
  have := flat_get (css := l.map MkV.cells) (sz := 3) (fun cs hc => by obtain ⟨x, _, rfl⟩ := List.mem_map.1 hc; rfl) (i := i) (by simpa using hi) (j := j) hj
  unfold mkC; rw [this, List.getElem_map]; exact h
theorem mkC_ld {w : World} {b o n c i : Nat} {l : List MkV} (rd : RdS w 3 (some ⟨b, o, none⟩) n c (mkC l)) (hi : i < l.length) :
    (loadG 59 (.pointer (some ⟨b, o + i * 3, none⟩))).run Tryz.prog w = .ok (.agg l[i].cells.toArray) w :=
  run_loadG agg_mk rfl (fun _ _ hu => rd.at2 (mkC_get hi hu))
theorem mkC_ln {w : World} {ao : Option Addr} {n c : Nat} {l : List MkV} (rd : RdS w 3 ao n c (mkC l)) : l.length = n := by have := rd.len; rw [mkC_sz] at this; omega
def mkCAny (l : List MkV) : Bool := l.any fun x => !markB x
theorem mkC_snoc {l : List MkV} {i : Nat} (h : i < l.length) : mkCAny (l.take (i + 1)) = (mkCAny (l.take i) || !markB l[i]) := by
  unfold mkCAny; rw [List.take_succ_eq_append_getElem h, List.any_append]; simp
theorem mkC_yes {l : List MkV} {i : Nat} (h : i < l.length) (hg : markB l[i] = false) : mkCAny l = true := by
  unfold mkCAny; exact List.any_eq_true.2 ⟨_, List.getElem_mem h, by simp [hg]⟩

section
variable {W w : World} {R : List HP} {post : Ending → World → Prop}

theorem mkC_pred {B : Nat} {x : MkV} (s : St W w (row B 0 [Value.func (.func 82) #[] #[]] :: R))
    (K : ∀ w', St W w' (row B 0 [Value.func (.func 82) #[] #[]] :: R) → post (.returned (.bool (!markB x))) w') : Calls Tryz.prog 136 #[.agg x.cells.toArray, .pointer (some ⟨B, 0, none⟩)] w post := by
  have HK := hid K; clear K
  go_enter Tryz.func136, Tryz.ntmps136
  go_wp2_with (first
    | (refine wpl_boxA (vs := x.cells) rfl (.tmp 0) rfl rfl s ?_; rintro T w1 s1; have c0 : (loadG 187 (.pointer (some ⟨B, 0, none⟩))).run Tryz.prog w1 = .ok (Value.func (.func 82) #[] #[]) w1 := run_ldP (by kernel_rfl) ((St.pick 1 s1).rowCell (i := 0) rfl)
       have c1 : (loadG 59 (.pointer (some ⟨T, 0, none⟩))).run Tryz.prog w1 = .ok (.agg x.cells.toArray) w1 := run_loadG (o := 0) agg_mk rfl s1.rowAll)
    | (go_at_call 82; refine goodMark_c s1 ?_; rintro w2 s2))
  exact HK.out _ s2.drop

set_option maxRecDepth 100000 in
set_option maxHeartbeats 4000000 in
theorem mkC_idx {B : Nat} {a : Option Addr} {n c : Nat} {l : List MkV} (hp : Rds W (row B 0 [Value.func (.func 82) #[] #[]] :: R) 3 a n c (mkC l)) (hn : n ≤ 4096) (st : St W w (row B 0 [Value.func (.func 82) #[] #[]] :: R))
    (K : ∀ w' r, St W w' (row B 0 [Value.func (.func 82) #[] #[]] :: R) → decide (0 ≤ r) = mkCAny l → post (.returned (.int .i64 r)) w') : Calls Tryz.prog 172 #[.slice a n c, .func (.func 136) #[] #[.pointer (some ⟨B, 0, none⟩)]] w post := by
  have HK := hid K; clear K
  have HN : Hid (l.length = n) := hid (mkC_ln (hp w st))
  go_enter Tryz.func172, Tryz.ntmps172
  go_wp2_with fail
  go_loopw [8] (fun ii wr => ∃ i : Nat, i ≤ n ∧ ii = .int .i64 i ∧ mkCAny (l.take i) = false ∧ St W wr (row B 0 [Value.func (.func 82) #[] #[]] :: R)) (fun ii _ => n - (intOf ii).toNat)
  case atStart => exact ⟨0, Nat.zero_le _, rfl, rfl, st⟩
  case round =>
    obtain ⟨i, hi, rfl, hg, sr⟩ := hrel
    have HG := hid hg; clear hg
    by_cases hlt : i < n
    · have rd := hp _ sr
      obtain ⟨g3, o3, rfl⟩ := rd.addr (by omega)
      have hiA : i < l.length := by rw [HN.out]; exact hlt
      have ci := mkC_ld rd hiA
      have HS := hid (mkC_snoc hiA)
      have hT := mkC_yes hiA
      obtain ⟨q, hq⟩ : ∃ q, l[i] = q := ⟨_, rfl⟩
      rw [hq] at ci HS hT
      obtain ⟨b, hb⟩ : ∃ b, markB q = b := ⟨_, rfl⟩
      have HB := hid hb
      have HT : Hid (b = false → mkCAny l = true) := hid (fun h => hT (by rw [hb, h]))
      rw [hb] at HS
      clear hq hb rd hT
      have hi2 : (i : Int) < (n : Int) := by omega
      cases b with
      | false =>
        have HA := hid (HT.out rfl)
        clear HT
        go_wp2_with (go_at_call 136; refine mkC_pred sr ?_; rintro w6 s6; rw [HB.out])
        exact HK.out _ _ s6 (by rw [HA.out]; exact decide_eq_true (by omega))
      | true =>
        go_wp2_with (go_at_call 136; refine mkC_pred sr ?_; rintro w6 s6; rw [HB.out])
        go_roundw
        case rel => exact ⟨i + 1, by omega, by go_num, by rw [HS.out, HG.out]; rfl, s6⟩
        case measure => simp [intOf]; omega
    · have hie : i = n := by omega
      subst hie
      have hg := HG.out
      rw [List.take_of_length_le (by rw [HN.out]; exact Nat.le_refl _)] at hg
      have HG2 := hid hg; clear hg
      go_wp2_with fail
      exact HK.out _ _ sr (by rw [HG2.out]; rfl)

set_option maxRecDepth 100000 in
theorem mkC_cont {B : Nat} {a : Option Addr} {n c : Nat} {l : List MkV} (hp : Rds W (row B 0 [Value.func (.func 82) #[] #[]] :: R) 3 a n c (mkC l)) (hn : n ≤ 4096) (st : St W w (row B 0 [Value.func (.func 82) #[] #[]] :: R))
    (K : ∀ w', St W w' (row B 0 [Value.func (.func 82) #[] #[]] :: R) → post (.returned (.bool (mkCAny l))) w') : Calls Tryz.prog 135 #[.slice a n c, .func (.func 136) #[] #[.pointer (some ⟨B, 0, none⟩)]] w post := by
  have HK := hid K; clear K
  go_enter Tryz.func135, Tryz.ntmps135
  go_wp2_with (go_at_call 172; refine mkC_idx hp hn st ?_; rintro w1 r s1 hr)

  exact HK.out _ s1

def mkCAll (lo hi : Int) (l : List MkV) : Bool := decide (lo ≤ (l.length : Int)) && (decide ((l.length : Int) ≤ hi) && !mkCAny l)
set_option maxRecDepth 100000 in
set_option maxHeartbeats 4000000 in
theorem mkCAll_c {lo hi : Int} {a : Option Addr} {n c : Nat} {l : List MkV} (hp : Rds W R 3 a n c (mkC l)) (hn : n ≤ 4096) (st : St W w R)
    (K : ∀ w', St W w' R → post (.returned (.bool (mkCAll lo hi l))) w') : Calls Tryz.prog 84 #[.slice a n c, two2 lo hi, .func (.func 82) #[] #[]] w post := by
  have hl : l.length = n := mkC_ln (hp w st)
  unfold mkCAll at K
  rw [hl] at K
  have s1 := st.alloc #[.int .i64 lo, .int .i64 hi] 180
  have k0 := s1.rowCell (i := 0) rfl
  have k1 := s1.rowCell (i := 1) rfl
  rw [Nat.zero_add] at k1
  have s2 : St W ((w.alloc (.cells #[.int .i64 lo, .int .i64 hi] 180)).alloc (.cells #[.func (.func 82) #[] #[]] 187)) (row (w.heap.size + 1) 0 [Value.func (.func 82) #[] #[]] :: row w.heap.size 0 [.int .i64 lo, .int .i64 hi] :: R) := by
    have := s1.alloc #[.func (.func 82) #[] #[]] 187
    simpa using this
  have c0 := run_ldP (t := 3) (by kernel_rfl) ((St.pick 1 s2).rowCell (i := 0) rfl)
  have c1 := run_ldP (t := 3) (by kernel_rfl) ((St.pick 1 s2).rowCell (i := 1) rfl)
  rw [Nat.zero_add] at c1
  clear k0 k1 hl
  unfold two2
  by_cases h1 : lo ≤ (n : Int)
  · have h1' : decide ((n : Int) < lo) = false := decide_eq_false (by omega)
    rw [decide_eq_true h1] at K
    by_cases h2 : (n : Int) ≤ hi
    · have h2' : decide (hi < (n : Int)) = false := decide_eq_false (by omega)
      rw [decide_eq_true h2] at K
      simp only [Bool.true_and] at K
      have HK := hid K; clear K
      clear h1 h2
      go_enter Tryz.func84, Tryz.ntmps84
      go_wp2_with (go_at_call 135; refine mkC_cont hp.cons.cons hn s2 ?_; rintro w3 s3)
      exact HK.out _ (s3.dropN 2)
    · have h2' : decide (hi < (n : Int)) = true := decide_eq_true (by omega)
      rw [decide_eq_false h2] at K
      simp only [Bool.true_and, Bool.false_and] at K
      have HK := hid K; clear K
      clear h1 h2
      go_enter Tryz.func84, Tryz.ntmps84
      go_wp2_with fail
      exact HK.out _ (s2.dropN 2)
  · have h1' : decide ((n : Int) < lo) = true := decide_eq_true (by omega)
    rw [decide_eq_false h1] at K
    simp only [Bool.false_and] at K
    have HK := hid K; clear K
    clear h1
    go_enter Tryz.func84, Tryz.ntmps84
    go_wp2_with fail
    exact HK.out _ (s2.dropN 2)
end

theorem enC_sz (l : List EnV) : (enC l).length = l.length * 9 := by
  induction l with
  | nil => rfl
  | cons x l ih => show (x.cells ++ enC l).length = _; rw [List.length_append, ih, List.length_cons]; simp [EnV.cells]; omega
theorem enC_get {l : List EnV} {i : Nat} (hi : i < l.length) {j : Nat} {u : Value} (h : l[i].cells[j]? = some u) : (enC l)[i * 9 + j]? = some u := by
  have hj : j < 9 := by
    rcases Nat.lt_or_ge j 9 with g | g
    · exact g
    · rw [List.getElem?_eq_none (by simpa [EnV.cells] using g)] at h; cases h
  have := flat_get (css := l.map EnV.cells) (sz := 9) (fun cs hc => by obtain ⟨x, _, rfl⟩ := List.mem_map.1 hc; rfl) (i := i) (by simpa using hi) (j := j) hj
  unfold enC; rw [this, List.getElem_map]; exact h
theorem enC_ld {w : World} {b o n c i : Nat} {l : List EnV} (rd : RdS w 9 (some ⟨b, o, none⟩) n c (enC l)) (hi : i < l.length) :
    (loadG 67 (.pointer (some ⟨b, o + i * 9, none⟩))).run Tryz.prog w = .ok (.agg l[i].cells.toArray) w :=
  run_loadG agg_en rfl (fun _ _ hu => rd.at2 (enC_get hi hu))
theorem enC_ln {w : World} {ao : Option Addr} {n c : Nat} {l : List EnV} (rd : RdS w 9 ao n c (enC l)) : l.length = n := by have := rd.len; rw [enC_sz] at this; omega
def enCAny (l : List EnV) : Bool := l.any fun x => !enF x
theorem enC_snoc {l : List EnV} {i : Nat} (h : i < l.length) : enCAny (l.take (i + 1)) = (enCAny (l.take i) || !enF l[i]) := by
  unfold enCAny; rw [List.take_succ_eq_append_getElem h, List.any_append]; simp
theorem enC_yes {l : List EnV} {i : Nat} (h : i < l.length) (hg : enF l[i] = false) : enCAny l = true := by
  unfold enCAny; exact List.any_eq_true.2 ⟨_, List.getElem_mem h, by simp [hg]⟩

section
variable {W w : World} {R : List HP} {post : Ending → World → Prop}

theorem enC_pred {B : Nat} {x : EnV} (s : St W w (row B 0 [Value.func (.func 86) #[] #[]] :: R))
    (K : ∀ w', St W w' (row B 0 [Value.func (.func 86) #[] #[]] :: R) → post (.returned (.bool (!enF x))) w') : Calls Tryz.prog 138 #[.agg x.cells.toArray, .pointer (some ⟨B, 0, none⟩)] w post := by
  have HK := hid K; clear K
  go_enter Tryz.func138, Tryz.ntmps138
  go_wp2_with (first
    | (refine wpl_boxA (vs := x.cells) rfl (.tmp 0) rfl rfl s ?_; rintro T w1 s1; have c0 : (loadG 191 (.pointer (some ⟨B, 0, none⟩))).run Tryz.prog w1 = .ok (Value.func (.func 86) #[] #[]) w1 := run_ldP (by kernel_rfl) ((St.pick 1 s1).rowCell (i := 0) rfl)
       have c1 : (loadG 67 (.pointer (some ⟨T, 0, none⟩))).run Tryz.prog w1 = .ok (.agg x.cells.toArray) w1 := run_loadG (o := 0) agg_en rfl s1.rowAll)
    | (go_at_call 86; refine goodEntry_c s1 ?_; rintro w2 s2))
  exact HK.out _ s2.drop

set_option maxRecDepth 100000 in
set_option maxHeartbeats 4000000 in
theorem enC_idx {B : Nat} {a : Option Addr} {n c : Nat} {l : List EnV} (hp : Rds W (row B 0 [Value.func (.func 86) #[] #[]] :: R) 9 a n c (enC l)) (hn : n ≤ 4096) (st : St W w (row B 0 [Value.func (.func 86) #[] #[]] :: R))
    (K : ∀ w' r, St W w' (row B 0 [Value.func (.func 86) #[] #[]] :: R) → decide (0 ≤ r) = enCAny l → post (.returned (.int .i64 r)) w') : Calls Tryz.prog 173 #[.slice a n c, .func (.func 138) #[] #[.pointer (some ⟨B, 0, none⟩)]] w post := by
  have HK := hid K; clear K
  have HN : Hid (l.length = n) := hid (enC_ln (hp w st))
  go_enter Tryz.func173, Tryz.ntmps173
  go_wp2_with fail
  go_loopw [8] (fun ii wr => ∃ i : Nat, i ≤ n ∧ ii = .int .i64 i ∧ enCAny (l.take i) = false ∧ St W wr (row B 0 [Value.func (.func 86) #[] #[]] :: R)) (fun ii _ => n - (intOf ii).toNat)
  case atStart => exact ⟨0, Nat.zero_le _, rfl, rfl, st⟩
  case round =>
    obtain ⟨i, hi, rfl, hg, sr⟩ := hrel
    have HG := hid hg; clear hg
    by_cases hlt : i < n
    · have rd := hp _ sr
      obtain ⟨g3, o3, rfl⟩ := rd.addr (by omega)
      have hiA : i < l.length := by rw [HN.out]; exact hlt
      have ci := enC_ld rd hiA
      have HS := hid (enC_snoc hiA)
      have hT := enC_yes hiA
      obtain ⟨q, hq⟩ : ∃ q, l[i] = q := ⟨_, rfl⟩
      rw [hq] at ci HS hT
      obtain ⟨b, hb⟩ : ∃ b, enF q = b := ⟨_, rfl⟩
      have HB := hid hb
      have HT : Hid (b = false → enCAny l = true) := hid (fun h => hT (by rw [hb, h]))
      rw [hb] at HS
      clear hq hb rd hT
      have hi2 : (i : Int) < (n : Int) := by omega
      cases b with
      | false =>
        have HA := hid (HT.out rfl)
        clear HT
        go_wp2_with (go_at_call 138; refine enC_pred sr ?_; rintro w6 s6; rw [HB.out])
        exact HK.out _ _ s6 (by rw [HA.out]; exact decide_eq_true (by omega))
      | true =>
        go_wp2_with (go_at_call 138; refine enC_pred sr ?_; rintro w6 s6; rw [HB.out])
        go_roundw
        case rel => exact ⟨i + 1, by omega, by go_num, by rw [HS.out, HG.out]; rfl, s6⟩
        case measure => simp [intOf]; omega
    · have hie : i = n := by omega
      subst hie
      have hg := HG.out
      rw [List.take_of_length_le (by rw [HN.out]; exact Nat.le_refl _)] at hg
      have HG2 := hid hg; clear hg
      go_wp2_with fail
      exact HK.out _ _ sr (by rw [HG2.out]; rfl)

set_option maxRecDepth 100000 in
theorem enC_cont {B : Nat} {a : Option Addr} {n c : Nat} {l : List EnV} (hp : Rds W (row B 0 [Value.func (.func 86) #[] #[]] :: R) 9 a n c (enC l)) (hn : n ≤ 4096) (st : St W w (row B 0 [Value.func (.func 86) #[] #[]] :: R))
    (K : ∀ w', St W w' (row B 0 [Value.func (.func 86) #[] #[]] :: R) → post (.returned (.bool (enCAny l))) w') : Calls Tryz.prog 137 #[.slice a n c, .func (.func 138) #[] #[.pointer (some ⟨B, 0, none⟩)]] w post := by
  have HK := hid K; clear K
  go_enter Tryz.func137, Tryz.ntmps137
  go_wp2_with (go_at_call 173; refine enC_idx hp hn st ?_; rintro w1 r s1 hr)

  exact HK.out _ s1

def enCAll (lo hi : Int) (l : List EnV) : Bool := decide (lo ≤ (l.length : Int)) && (decide ((l.length : Int) ≤ hi) && !enCAny l)
set_option maxRecDepth 100000 in
set_option maxHeartbeats 4000000 in
theorem enCAll_c {lo hi : Int} {a : Option Addr} {n c : Nat} {l : List EnV} (hp : Rds W R 9 a n c (enC l)) (hn : n ≤ 4096) (st : St W w R)
    (K : ∀ w', St W w' R → post (.returned (.bool (enCAll lo hi l))) w') : Calls Tryz.prog 85 #[.slice a n c, two2 lo hi, .func (.func 86) #[] #[]] w post := by
  have hl : l.length = n := enC_ln (hp w st)
  unfold enCAll at K
  rw [hl] at K
  have s1 := st.alloc #[.int .i64 lo, .int .i64 hi] 180
  have k0 := s1.rowCell (i := 0) rfl
  have k1 := s1.rowCell (i := 1) rfl
  rw [Nat.zero_add] at k1
  have s2 : St W ((w.alloc (.cells #[.int .i64 lo, .int .i64 hi] 180)).alloc (.cells #[.func (.func 86) #[] #[]] 191)) (row (w.heap.size + 1) 0 [Value.func (.func 86) #[] #[]] :: row w.heap.size 0 [.int .i64 lo, .int .i64 hi] :: R) := by
    have := s1.alloc #[.func (.func 86) #[] #[]] 191
    simpa using this
  have c0 := run_ldP (t := 3) (by kernel_rfl) ((St.pick 1 s2).rowCell (i := 0) rfl)
  have c1 := run_ldP (t := 3) (by kernel_rfl) ((St.pick 1 s2).rowCell (i := 1) rfl)
  rw [Nat.zero_add] at c1
  clear k0 k1 hl
  unfold two2
  by_cases h1 : lo ≤ (n : Int)
  · have h1' : decide ((n : Int) < lo) = false := decide_eq_false (by omega)
    rw [decide_eq_true h1] at K
    by_cases h2 : (n : Int) ≤ hi
    · have h2' : decide (hi < (n : Int)) = false := decide_eq_false (by omega)
      rw [decide_eq_true h2] at K
      simp only [Bool.true_and] at K
      have HK := hid K; clear K
      clear h1 h2
      go_enter Tryz.func85, Tryz.ntmps85
      go_wp2_with (go_at_call 137; refine enC_cont hp.cons.cons hn s2 ?_; rintro w3 s3)
      exact HK.out _ (s3.dropN 2)
    · have h2' : decide (hi < (n : Int)) = true := decide_eq_true (by omega)
      rw [decide_eq_false h2] at K
      simp only [Bool.true_and, Bool.false_and] at K
      have HK := hid K; clear K
      clear h1 h2
      go_enter Tryz.func85, Tryz.ntmps85
      go_wp2_with fail
      exact HK.out _ (s2.dropN 2)
  · have h1' : decide ((n : Int) < lo) = true := decide_eq_true (by omega)
    rw [decide_eq_false h1] at K
    simp only [Bool.false_and] at K
    have HK := hid K; clear K
    clear h1
    go_enter Tryz.func85, Tryz.ntmps85
    go_wp2_with fail
    exact HK.out _ (s2.dropN 2)
end

end Go.Proofs.YtojfjbbggpfijaaGreatDoor

/- The document's stamps, marks, entries as the program's, and back. Printed by mkOfA.py. -/
namespace Go.Proofs.YtojfjbbggpfijaaGreatDoor
open Go.RowKit Go.Qd

theorem mk_one (x : MkV) : ∀ u ∈ x.cells, u.oneCell' = true := by
  intro u hu; simp only [MkV.cells, List.mem_cons, List.not_mem_nil, or_false] at hu
  rcases hu with rfl | rfl | rfl <;> rfl
theorem en_one (x : EnV) : ∀ u ∈ x.cells, u.oneCell' = true := by
  intro u hu; simp only [EnV.cells, List.mem_cons, List.not_mem_nil, or_false] at hu
  rcases hu with rfl | rfl | rfl | rfl | rfl | rfl | rfl | rfl | rfl <;> rfl
theorem box2c {W w : World} {R : List HP} {B : Nat} {x y : Value} (s : St W w (row B 0 [x, y] :: R)) : w.cell? ⟨B, 0, none⟩ = some x ∧ w.cell? ⟨B, 1, none⟩ = some y :=
  ⟨s.rowCell (i := 0) rfl, by have := s.rowCell (i := 1) rfl; rwa [Nat.zero_add] at this⟩
def mk0 : MkV := ⟨0, 0, ByteArray.empty⟩
def en0 : EnV := ⟨ByteArray.empty, ByteArray.empty, false, 0, 0, 0, 0, 0, 0⟩
theorem agg_rst : AggT Tryz.prog 41 2 := ⟨⟨_, Tryz.underlying41, rfl⟩, by kernel_rfl⟩
theorem agg_rmk : AggT Tryz.prog 46 3 := ⟨⟨_, Tryz.underlying46, rfl⟩, by kernel_rfl⟩
theorem agg_ren : AggT Tryz.prog 43 9 := ⟨⟨_, Tryz.underlying43, rfl⟩, by kernel_rfl⟩

theorem zero_stOf (w : World) : (zeroValue 57).run Tryz.prog w = .ok (.agg [Value.int .i64 0, .int .i64 0].toArray) w := by kernel_rfl
theorem zero_mkOf (w : World) : (zeroValue 59).run Tryz.prog w = .ok (.agg mk0.cells.toArray) w := by kernel_rfl
theorem zero_enOf (w : World) : (zeroValue 67).run Tryz.prog w = .ok (.agg en0.cells.toArray) w := by kernel_rfl

section
variable {W w : World} {R : List HP} {post : Ending → World → Prop}

set_option maxRecDepth 100000 in
theorem stOf_c {c s : Int} (st : St W w R) (K : ∀ w', St W w' R → post (.returned (.agg [Value.int .i64 c, .int .i64 s].toArray)) w') :
    Calls Tryz.prog 59 #[.agg [Value.int .i64 c, .int .i64 s].toArray] w post := by
  have HK := hid K; clear K
  go_enter Tryz.func59, Tryz.ntmps59
  go_wp2_with (first
    | (refine wpl_boxA (vs := [Value.int .i64 c, .int .i64 s]) rfl (.tmp 0) rfl rfl st ?_; rintro T w1 s1)
    | (refine wpl_allocA rfl rfl zero_stOf s1 ?_; rintro E w2 s2; obtain ⟨c0, c1⟩ := box2c (St.pick 1 s2))
    | (refine wpl_storeA (vs := [Value.int .i64 c, .int .i64 s]) rfl (.tmp 2) (.tmp 7) (by rfl) agg_st (by rfl) (by rfl) rfl (by simp [Value.oneCell']) s2 rfl ?_; rintro w3 s3))
  have hL := run_loadA agg_st rfl s3.rowAll
  exact bodyPost_ret (v := .agg [Value.int .i64 c, .int .i64 s].toArray) (by simp [results, Tryz.results59, asAddr, hL, Act.put]) rfl (HK.out _ (s3.dropN 2))

attribute [local go_sem ↓] execOp_ldAny
theorem mkLOf {T : Nat} {m : MkV} (h : St W w (row T 0 m.cells :: R)) :
    (loadG 41 (.pointer (some ⟨T, 0, none⟩))).run Tryz.prog w = .ok (.agg [Value.int .i64 m.c, .int .i64 m.s].toArray) w ∧ (loadG 9 (.pointer (some ⟨T, 2, none⟩))).run Tryz.prog w = .ok (.string m.key) w := by
  have c2 := h.rowCell (i := 2) (v := .string m.key) rfl
  rw [Nat.zero_add] at c2
  exact ⟨run_loadG (o := 0) agg_rst (vs := [.int .i64 m.c, .int .i64 m.s]) rfl (fun j u hu => by have := St.rowPart h 0 (xs := [.int .i64 m.c, .int .i64 m.s]) (ys := [.string m.key]) rfl j u hu; simpa using this), run_ldP (by kernel_rfl) c2⟩
theorem enLOf {T : Nat} {e : EnV} (h : St W w (row T 0 e.cells :: R)) :
    (loadG 9 (.pointer (some ⟨T, 0, none⟩))).run Tryz.prog w = .ok (.string e.key) w ∧ (loadG 9 (.pointer (some ⟨T, 1, none⟩))).run Tryz.prog w = .ok (.string e.val) w ∧ (loadG 4 (.pointer (some ⟨T, 2, none⟩))).run Tryz.prog w = .ok (.bool e.dead) w ∧
    (loadG 41 (.pointer (some ⟨T, 3, none⟩))).run Tryz.prog w = .ok (.agg [Value.int .i64 e.sc, .int .i64 e.ss].toArray) w ∧ (loadG 41 (.pointer (some ⟨T, 5, none⟩))).run Tryz.prog w = .ok (.agg [Value.int .i64 e.ac, .int .i64 e.az].toArray) w ∧
    (loadG 3 (.pointer (some ⟨T, 7, none⟩))).run Tryz.prog w = .ok (.int .i64 e.kp) w ∧ (loadG 3 (.pointer (some ⟨T, 8, none⟩))).run Tryz.prog w = .ok (.int .i64 e.age) w := by
  have f : ∀ i v, e.cells[i]? = some v → w.cell? ⟨T, i, none⟩ = some v := fun i v hv => by have := h.rowCell hv; rwa [Nat.zero_add] at this
  refine ⟨run_ldP (by kernel_rfl) (f 0 _ rfl), run_ldP (by kernel_rfl) (f 1 _ rfl), run_ldP (by kernel_rfl) (f 2 _ rfl), ?_, ?_, run_ldP (by kernel_rfl) (f 7 _ rfl), run_ldP (by kernel_rfl) (f 8 _ rfl)⟩
  · exact run_loadG (o := 0 + 3) agg_rst (vs := [.int .i64 e.sc, .int .i64 e.ss]) rfl (St.rowPart h 3 (xs := [.int .i64 e.sc, .int .i64 e.ss]) (ys := [.int .i64 e.ac, .int .i64 e.az, .int .i64 e.kp, .int .i64 e.age]) rfl)
  · exact run_loadG (o := 0 + 5) agg_rst (vs := [.int .i64 e.ac, .int .i64 e.az]) rfl (St.rowPart h 5 (xs := [.int .i64 e.ac, .int .i64 e.az]) (ys := [.int .i64 e.kp, .int .i64 e.age]) rfl)

set_option maxRecDepth 100000 in
set_option maxHeartbeats 1000000 in
theorem mkOf_c {m : MkV} (st : St W w R) (K : ∀ w', St W w' R → post (.returned (.agg m.cells.toArray)) w') : Calls Tryz.prog 43 #[.agg m.cells.toArray] w post := by
  have HK := hid K; clear K
  go_enter Tryz.func43, Tryz.ntmps43
  go_wp2_with (first
    | (refine wpl_boxA (vs := m.cells) rfl (.tmp 0) rfl rfl st ?_; rintro T w1 s1)
    | (refine wpl_allocA rfl rfl zero_mkOf s1 ?_; rintro E w2 s2))
  simp only [Act.put, List.setIfInBounds_toArray, List.set_cons_succ, List.set_cons_zero]
  have s3 : St W w2 (row T 0 m.cells :: row E 0 mk0.cells :: R) := St.pick 1 s2
  have hN : Nonempty (Cls fun w' => St W w' (row T 0 m.cells :: row E 0 mk0.cells :: R)) := Cls.inh s3
  have f0 : ∀ s : Cls (fun w' => St W w' (row T 0 m.cells :: row E 0 mk0.cells :: R)), (loadG 41 (.pointer (some ⟨T, 0, none⟩))).run Tryz.prog s.w = .ok (.agg [Value.int .i64 m.c, .int .i64 m.s].toArray) s.w := fun s => (mkLOf s.h).1
  have f1 : ∀ s : Cls (fun w' => St W w' (row T 0 m.cells :: row E 0 mk0.cells :: R)), (loadG 9 (.pointer (some ⟨T, 2, none⟩))).run Tryz.prog s.w = .ok (.string m.key) s.w := fun s => (mkLOf s.h).2
  refine wp_region_class_tail (fun w' => St W w' (row T 0 m.cells :: row E 0 mk0.cells :: R)) 6 (by kernel_rfl) (by kernel_rfl) s3.drew ?_
  simp only [List.take_succ_cons, List.take_zero, List.drop_succ_cons, List.drop_zero]
  repeat (go_big_quiet_step ((rename_i s; (go_at_call 59; refine stOf_c s.h ?_; rintro w4 s4; exact Cls.end _ s4))))
  refine wpQuiet_nil ?_
  rintro ⟨w5, s5⟩
  dsimp only
  go_wp2_with (refine wpl_storeA (vs := m.cells) rfl (.tmp 2) (.tmp 8) (by rfl) agg_mk (by rfl) (by rfl) rfl (mk_one m) (St.pick 1 s5) rfl ?_; rintro w6 s6)
  have hL := run_loadA agg_mk rfl s6.rowAll
  exact bodyPost_ret (v := .agg m.cells.toArray) (by simp [results, Tryz.results43, asAddr, hL, Act.put]) rfl (HK.out _ (s6.dropN 2))

set_option maxRecDepth 100000 in
set_option maxHeartbeats 2000000 in
theorem enOf_c {e : EnV} (st : St W w R) (K : ∀ w', St W w' R → post (.returned (.agg e.cells.toArray)) w') : Calls Tryz.prog 23 #[.agg e.cells.toArray] w post := by
  have HK := hid K; clear K
  go_enter Tryz.func23, Tryz.ntmps23
  go_wp2_with (first
    | (refine wpl_boxA (vs := e.cells) rfl (.tmp 0) rfl rfl st ?_; rintro T w1 s1)
    | (refine wpl_allocA rfl rfl zero_enOf s1 ?_; rintro E w2 s2))
  simp only [Act.put, List.setIfInBounds_toArray, List.set_cons_succ, List.set_cons_zero]
  have s3 : St W w2 (row T 0 e.cells :: row E 0 en0.cells :: R) := St.pick 1 s2
  have hN : Nonempty (Cls fun w' => St W w' (row T 0 e.cells :: row E 0 en0.cells :: R)) := Cls.inh s3
  have f := fun (s : Cls (fun w' => St W w' (row T 0 e.cells :: row E 0 en0.cells :: R))) => enLOf s.h
  have f0 := fun s => (f s).1
  have f1 := fun s => (f s).2.1
  have f2 := fun s => (f s).2.2.1
  have f3 := fun s => (f s).2.2.2.1
  have f4 := fun s => (f s).2.2.2.2.1
  have f5 := fun s => (f s).2.2.2.2.2.1
  have f6 := fun s => (f s).2.2.2.2.2.2
  clear f
  refine wp_region_class_tail (fun w' => St W w' (row T 0 e.cells :: row E 0 en0.cells :: R)) 17 (by kernel_rfl) (by kernel_rfl) s3.drew ?_
  simp only [List.take_succ_cons, List.take_zero, List.drop_succ_cons, List.drop_zero]
  repeat (go_big_quiet_step ((rename_i s; (go_at_call 59; refine stOf_c s.h ?_; rintro w4 s4; exact Cls.end _ s4))))
  refine wpQuiet_nil ?_
  rintro ⟨w5, s5⟩
  dsimp only
  go_wp2_with (refine wpl_storeA (vs := e.cells) rfl (.tmp 2) (.tmp 19) (by rfl) agg_en (by rfl) (by rfl) rfl (en_one e) (St.pick 1 s5) rfl ?_; rintro w6 s6)
  have hL := run_loadA agg_en rfl s6.rowAll
  exact bodyPost_ret (v := .agg e.cells.toArray) (by simp [results, Tryz.results23, asAddr, hL, Act.put]) rfl (HK.out _ (s6.dropN 2))

end

theorem zero_stTo (w : World) : (zeroValue 41).run Tryz.prog w = .ok (.agg [Value.int .i64 0, .int .i64 0].toArray) w := by kernel_rfl
theorem zero_mkTo (w : World) : (zeroValue 46).run Tryz.prog w = .ok (.agg mk0.cells.toArray) w := by kernel_rfl
theorem zero_enTo (w : World) : (zeroValue 43).run Tryz.prog w = .ok (.agg en0.cells.toArray) w := by kernel_rfl

section
variable {W w : World} {R : List HP} {post : Ending → World → Prop}

set_option maxRecDepth 100000 in
theorem stTo_c {c s : Int} (st : St W w R) (K : ∀ w', St W w' R → post (.returned (.agg [Value.int .i64 c, .int .i64 s].toArray)) w') :
    Calls Tryz.prog 46 #[.agg [Value.int .i64 c, .int .i64 s].toArray] w post := by
  have HK := hid K; clear K
  go_enter Tryz.func46, Tryz.ntmps46
  go_wp2_with (first
    | (refine wpl_boxA (vs := [Value.int .i64 c, .int .i64 s]) rfl (.tmp 0) rfl rfl st ?_; rintro T w1 s1)
    | (refine wpl_allocA rfl rfl zero_stTo s1 ?_; rintro E w2 s2; obtain ⟨c0, c1⟩ := box2c (St.pick 1 s2))
    | (refine wpl_storeA (vs := [Value.int .i64 c, .int .i64 s]) rfl (.tmp 2) (.tmp 7) (by rfl) agg_rst (by rfl) (by rfl) rfl (by simp [Value.oneCell']) s2 rfl ?_; rintro w3 s3))
  have hL := run_loadA agg_rst rfl s3.rowAll
  exact bodyPost_ret (v := .agg [Value.int .i64 c, .int .i64 s].toArray) (by simp [results, Tryz.results46, asAddr, hL, Act.put]) rfl (HK.out _ (s3.dropN 2))

attribute [local go_sem ↓] execOp_ldAny
theorem mkLTo {T : Nat} {m : MkV} (h : St W w (row T 0 m.cells :: R)) :
    (loadG 57 (.pointer (some ⟨T, 0, none⟩))).run Tryz.prog w = .ok (.agg [Value.int .i64 m.c, .int .i64 m.s].toArray) w ∧ (loadG 9 (.pointer (some ⟨T, 2, none⟩))).run Tryz.prog w = .ok (.string m.key) w := by
  have c2 := h.rowCell (i := 2) (v := .string m.key) rfl
  rw [Nat.zero_add] at c2
  exact ⟨run_loadG (o := 0) agg_st (vs := [.int .i64 m.c, .int .i64 m.s]) rfl (fun j u hu => by have := St.rowPart h 0 (xs := [.int .i64 m.c, .int .i64 m.s]) (ys := [.string m.key]) rfl j u hu; simpa using this), run_ldP (by kernel_rfl) c2⟩
theorem enLTo {T : Nat} {e : EnV} (h : St W w (row T 0 e.cells :: R)) :
    (loadG 9 (.pointer (some ⟨T, 0, none⟩))).run Tryz.prog w = .ok (.string e.key) w ∧ (loadG 9 (.pointer (some ⟨T, 1, none⟩))).run Tryz.prog w = .ok (.string e.val) w ∧ (loadG 4 (.pointer (some ⟨T, 2, none⟩))).run Tryz.prog w = .ok (.bool e.dead) w ∧
    (loadG 57 (.pointer (some ⟨T, 3, none⟩))).run Tryz.prog w = .ok (.agg [Value.int .i64 e.sc, .int .i64 e.ss].toArray) w ∧ (loadG 57 (.pointer (some ⟨T, 5, none⟩))).run Tryz.prog w = .ok (.agg [Value.int .i64 e.ac, .int .i64 e.az].toArray) w ∧
    (loadG 3 (.pointer (some ⟨T, 7, none⟩))).run Tryz.prog w = .ok (.int .i64 e.kp) w ∧ (loadG 3 (.pointer (some ⟨T, 8, none⟩))).run Tryz.prog w = .ok (.int .i64 e.age) w := by
  have f : ∀ i v, e.cells[i]? = some v → w.cell? ⟨T, i, none⟩ = some v := fun i v hv => by have := h.rowCell hv; rwa [Nat.zero_add] at this
  refine ⟨run_ldP (by kernel_rfl) (f 0 _ rfl), run_ldP (by kernel_rfl) (f 1 _ rfl), run_ldP (by kernel_rfl) (f 2 _ rfl), ?_, ?_, run_ldP (by kernel_rfl) (f 7 _ rfl), run_ldP (by kernel_rfl) (f 8 _ rfl)⟩
  · exact run_loadG (o := 0 + 3) agg_st (vs := [.int .i64 e.sc, .int .i64 e.ss]) rfl (St.rowPart h 3 (xs := [.int .i64 e.sc, .int .i64 e.ss]) (ys := [.int .i64 e.ac, .int .i64 e.az, .int .i64 e.kp, .int .i64 e.age]) rfl)
  · exact run_loadG (o := 0 + 5) agg_st (vs := [.int .i64 e.ac, .int .i64 e.az]) rfl (St.rowPart h 5 (xs := [.int .i64 e.ac, .int .i64 e.az]) (ys := [.int .i64 e.kp, .int .i64 e.age]) rfl)

set_option maxRecDepth 100000 in
set_option maxHeartbeats 1000000 in
theorem mkTo_c {m : MkV} (st : St W w R) (K : ∀ w', St W w' R → post (.returned (.agg m.cells.toArray)) w') : Calls Tryz.prog 65 #[.agg m.cells.toArray] w post := by
  have HK := hid K; clear K
  go_enter Tryz.func65, Tryz.ntmps65
  go_wp2_with (first
    | (refine wpl_boxA (vs := m.cells) rfl (.tmp 0) rfl rfl st ?_; rintro T w1 s1)
    | (refine wpl_allocA rfl rfl zero_mkTo s1 ?_; rintro E w2 s2))
  simp only [Act.put, List.setIfInBounds_toArray, List.set_cons_succ, List.set_cons_zero]
  have s3 : St W w2 (row T 0 m.cells :: row E 0 mk0.cells :: R) := St.pick 1 s2
  have hN : Nonempty (Cls fun w' => St W w' (row T 0 m.cells :: row E 0 mk0.cells :: R)) := Cls.inh s3
  have f0 : ∀ s : Cls (fun w' => St W w' (row T 0 m.cells :: row E 0 mk0.cells :: R)), (loadG 57 (.pointer (some ⟨T, 0, none⟩))).run Tryz.prog s.w = .ok (.agg [Value.int .i64 m.c, .int .i64 m.s].toArray) s.w := fun s => (mkLTo s.h).1
  have f1 : ∀ s : Cls (fun w' => St W w' (row T 0 m.cells :: row E 0 mk0.cells :: R)), (loadG 9 (.pointer (some ⟨T, 2, none⟩))).run Tryz.prog s.w = .ok (.string m.key) s.w := fun s => (mkLTo s.h).2
  refine wp_region_class_tail (fun w' => St W w' (row T 0 m.cells :: row E 0 mk0.cells :: R)) 6 (by kernel_rfl) (by kernel_rfl) s3.drew ?_
  simp only [List.take_succ_cons, List.take_zero, List.drop_succ_cons, List.drop_zero]
  repeat (go_big_quiet_step ((rename_i s; (go_at_call 46; refine stTo_c s.h ?_; rintro w4 s4; exact Cls.end _ s4))))
  refine wpQuiet_nil ?_
  rintro ⟨w5, s5⟩
  dsimp only
  go_wp2_with (refine wpl_storeA (vs := m.cells) rfl (.tmp 2) (.tmp 8) (by rfl) agg_rmk (by rfl) (by rfl) rfl (mk_one m) (St.pick 1 s5) rfl ?_; rintro w6 s6)
  have hL := run_loadA agg_rmk rfl s6.rowAll
  exact bodyPost_ret (v := .agg m.cells.toArray) (by simp [results, Tryz.results65, asAddr, hL, Act.put]) rfl (HK.out _ (s6.dropN 2))

set_option maxRecDepth 100000 in
set_option maxHeartbeats 2000000 in
theorem enTo_c {e : EnV} (st : St W w R) (K : ∀ w', St W w' R → post (.returned (.agg e.cells.toArray)) w') : Calls Tryz.prog 17 #[.agg e.cells.toArray] w post := by
  have HK := hid K; clear K
  go_enter Tryz.func17, Tryz.ntmps17
  go_wp2_with (first
    | (refine wpl_boxA (vs := e.cells) rfl (.tmp 0) rfl rfl st ?_; rintro T w1 s1)
    | (refine wpl_allocA rfl rfl zero_enTo s1 ?_; rintro E w2 s2))
  simp only [Act.put, List.setIfInBounds_toArray, List.set_cons_succ, List.set_cons_zero]
  have s3 : St W w2 (row T 0 e.cells :: row E 0 en0.cells :: R) := St.pick 1 s2
  have hN : Nonempty (Cls fun w' => St W w' (row T 0 e.cells :: row E 0 en0.cells :: R)) := Cls.inh s3
  have f := fun (s : Cls (fun w' => St W w' (row T 0 e.cells :: row E 0 en0.cells :: R))) => enLTo s.h
  have f0 := fun s => (f s).1
  have f1 := fun s => (f s).2.1
  have f2 := fun s => (f s).2.2.1
  have f3 := fun s => (f s).2.2.2.1
  have f4 := fun s => (f s).2.2.2.2.1
  have f5 := fun s => (f s).2.2.2.2.2.1
  have f6 := fun s => (f s).2.2.2.2.2.2
  clear f
  refine wp_region_class_tail (fun w' => St W w' (row T 0 e.cells :: row E 0 en0.cells :: R)) 17 (by kernel_rfl) (by kernel_rfl) s3.drew ?_
  simp only [List.take_succ_cons, List.take_zero, List.drop_succ_cons, List.drop_zero]
  repeat (go_big_quiet_step ((rename_i s; (go_at_call 46; refine stTo_c s.h ?_; rintro w4 s4; exact Cls.end _ s4))))
  refine wpQuiet_nil ?_
  rintro ⟨w5, s5⟩
  dsimp only
  go_wp2_with (refine wpl_storeA (vs := e.cells) rfl (.tmp 2) (.tmp 19) (by rfl) agg_ren (by rfl) (by rfl) rfl (en_one e) (St.pick 1 s5) rfl ?_; rintro w6 s6)
  have hL := run_loadA agg_ren rfl s6.rowAll
  exact bodyPost_ret (v := .agg e.cells.toArray) (by simp [results, Tryz.results17, asAddr, hL, Act.put]) rfl (HK.out _ (s6.dropN 2))

end

end Go.Proofs.YtojfjbbggpfijaaGreatDoor
