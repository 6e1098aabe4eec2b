/- Marks: several texts, joined. Entries: Check; goodEntry. -/
import Derived.Test.YtpjdcijphnkioaaGreatDoorMarkA
import Derived.Test.YtpjdcijphnkioaaGreatDoorLib
namespace Go.Proofs.YtpjdcijphnkioaaGreatDoor
open Go.RowKit Go.Qd
attribute [local go_sem ↓] execOp_ldAny

def enF (e : EnV) : Bool := checkE e == 0

section
variable {W w : World} {R : List HP} {post : Ending → World → Prop} {e : EnV}

set_option maxRecDepth 100000 in
set_option maxHeartbeats 16000000 in
theorem check_c (st : St W w R) (K : ∀ w', St W w' R → post (.returned (.int .i64 (checkE e))) w') : Calls Tryz.prog 41 #[.agg e.cells.toArray] w post := by
  unfold checkE at K
  obtain ⟨k1, hk1⟩ : ∃ b, decide ((e.key.size : Int) < 1) = b := ⟨_, rfl⟩
  obtain ⟨k2, hk2⟩ : ∃ b, decide (16 < (e.key.size : Int)) = b := ⟨_, rfl⟩
  obtain ⟨v1, hv1⟩ : ∃ b, decide (32 < (e.val.size : Int)) = b := ⟨_, rfl⟩
  obtain ⟨v2, hv2⟩ : ∃ b, nilB e.val = b := ⟨_, rfl⟩
  obtain ⟨g1, hg1⟩ : ∃ b, stampB e.sc e.ss = b := ⟨_, rfl⟩
  obtain ⟨g2, hg2⟩ : ∃ b, stampB e.ac e.az = b := ⟨_, rfl⟩
  obtain ⟨z, hz⟩ : ∃ z, cmpS e.ac e.az e.sc e.ss = z := ⟨_, rfl⟩
  obtain ⟨pl, hpl⟩ : ∃ b, plainB e = b := ⟨_, rfl⟩
  obtain ⟨ke, hke⟩ : ∃ b, keptB e = b := ⟨_, rfl⟩
  obtain ⟨dd, hdd⟩ : ∃ b, e.dead = b := ⟨_, rfl⟩
  rw [hk1, hk2, hv1, hv2, hg1, hg2, hz, hpl, hke, hdd] at K
  obtain ⟨zb, hzb⟩ : ∃ b, decide (z < 0) = b := ⟨_, rfl⟩
  rw [hzb] at K
  have HG1 := hid hg1; have HG2 := hid hg2; have HZ := hid hz; have HPL := hid hpl; have HKE := hid hke; have HDD := hid hdd
  have HV2 := hid hv2
  unfold nilB at hv2
  clear hg1 hg2 hz hpl hke hdd
  cases k1 with
  | true =>
    replace K : ∀ w', St W w' R → post (.returned (.int .i64 9)) w' := K
    have HK := hid K; clear K
    go_enter Tryz.func41, Tryz.ntmps41
    go_wp2_with (first
      | (refine wpl_boxA (vs := e.cells) rfl (.tmp 0) rfl rfl st ?_; rintro T w1 s1; obtain ⟨c0, c1, c2, c3, c4, c5, c6, c7⟩ := enL s1; rw [HDD.out] at c2)
      | (go_at_call 79; refine plain_c s4 ?_; rintro w5 s5; obtain ⟨i0, i1, i2, i3, i4, i5, i6, i7⟩ := enL s5; rw [HDD.out] at i2; rw [HPL.out])
      | (go_at_call 80; refine kept_c s4 ?_; rintro w5 s5; rw [HKE.out])
      | (go_at_call 78; refine cmpS_c s3 ?_; rintro w4 s4; obtain ⟨f0, f1, f2, f3, f4, f5, f6, f7⟩ := enL s4; rw [HDD.out] at f2; rw [HZ.out])
      | (go_at_call 77; refine stampGood_c s2 ?_; rintro w3 s3; obtain ⟨e0, e1, e2, e3, e4, e5, e6, e7⟩ := enL s3; rw [HG2.out]; clear s2)
      | (go_at_call 77; refine stampGood_c s1 ?_; rintro w2 s2; obtain ⟨d0, d1, d2, d3, d4, d5, d6, d7⟩ := enL s2; rw [HG1.out]; clear s1))
    first
      | exact HK.out _ s5.drop
      | exact HK.out _ s4.drop
      | exact HK.out _ s3.drop
      | exact HK.out _ s2.drop
      | exact HK.out _ s1.drop
  | false =>
    cases k2 with
    | true =>
      replace K : ∀ w', St W w' R → post (.returned (.int .i64 9)) w' := K
      have HK := hid K; clear K
      go_enter Tryz.func41, Tryz.ntmps41
      go_wp2_with (first
        | (refine wpl_boxA (vs := e.cells) rfl (.tmp 0) rfl rfl st ?_; rintro T w1 s1; obtain ⟨c0, c1, c2, c3, c4, c5, c6, c7⟩ := enL s1; rw [HDD.out] at c2)
        | (go_at_call 79; refine plain_c s4 ?_; rintro w5 s5; obtain ⟨i0, i1, i2, i3, i4, i5, i6, i7⟩ := enL s5; rw [HDD.out] at i2; rw [HPL.out])
        | (go_at_call 80; refine kept_c s4 ?_; rintro w5 s5; rw [HKE.out])
        | (go_at_call 78; refine cmpS_c s3 ?_; rintro w4 s4; obtain ⟨f0, f1, f2, f3, f4, f5, f6, f7⟩ := enL s4; rw [HDD.out] at f2; rw [HZ.out])
        | (go_at_call 77; refine stampGood_c s2 ?_; rintro w3 s3; obtain ⟨e0, e1, e2, e3, e4, e5, e6, e7⟩ := enL s3; rw [HG2.out]; clear s2)
        | (go_at_call 77; refine stampGood_c s1 ?_; rintro w2 s2; obtain ⟨d0, d1, d2, d3, d4, d5, d6, d7⟩ := enL s2; rw [HG1.out]; clear s1))
      first
        | exact HK.out _ s5.drop
        | exact HK.out _ s4.drop
        | exact HK.out _ s3.drop
        | exact HK.out _ s2.drop
        | exact HK.out _ s1.drop
    | false =>
      cases v1 with
      | true =>
        replace K : ∀ w', St W w' R → post (.returned (.int .i64 10)) w' := K
        have HK := hid K; clear K
        go_enter Tryz.func41, Tryz.ntmps41
        go_wp2_with (first
          | (refine wpl_boxA (vs := e.cells) rfl (.tmp 0) rfl rfl st ?_; rintro T w1 s1; obtain ⟨c0, c1, c2, c3, c4, c5, c6, c7⟩ := enL s1; rw [HDD.out] at c2)
          | (go_at_call 79; refine plain_c s4 ?_; rintro w5 s5; obtain ⟨i0, i1, i2, i3, i4, i5, i6, i7⟩ := enL s5; rw [HDD.out] at i2; rw [HPL.out])
          | (go_at_call 80; refine kept_c s4 ?_; rintro w5 s5; rw [HKE.out])
          | (go_at_call 78; refine cmpS_c s3 ?_; rintro w4 s4; obtain ⟨f0, f1, f2, f3, f4, f5, f6, f7⟩ := enL s4; rw [HDD.out] at f2; rw [HZ.out])
          | (go_at_call 77; refine stampGood_c s2 ?_; rintro w3 s3; obtain ⟨e0, e1, e2, e3, e4, e5, e6, e7⟩ := enL s3; rw [HG2.out]; clear s2)
          | (go_at_call 77; refine stampGood_c s1 ?_; rintro w2 s2; obtain ⟨d0, d1, d2, d3, d4, d5, d6, d7⟩ := enL s2; rw [HG1.out]; clear s1))
        first
          | exact HK.out _ s5.drop
          | exact HK.out _ s4.drop
          | exact HK.out _ s3.drop
          | exact HK.out _ s2.drop
          | exact HK.out _ s1.drop
      | false =>
        cases dd with
        | true =>
          cases v2 with
          | false =>
            replace K : ∀ w', St W w' R → post (.returned (.int .i64 10)) w' := K
            have HK := hid K; clear K
            go_enter Tryz.func41, Tryz.ntmps41
            go_wp2_with (first
              | (refine wpl_boxA (vs := e.cells) rfl (.tmp 0) rfl rfl st ?_; rintro T w1 s1; obtain ⟨c0, c1, c2, c3, c4, c5, c6, c7⟩ := enL s1; rw [HDD.out] at c2)
              | (go_at_call 79; refine plain_c s4 ?_; rintro w5 s5; obtain ⟨i0, i1, i2, i3, i4, i5, i6, i7⟩ := enL s5; rw [HDD.out] at i2; rw [HPL.out])
              | (go_at_call 80; refine kept_c s4 ?_; rintro w5 s5; rw [HKE.out])
              | (go_at_call 78; refine cmpS_c s3 ?_; rintro w4 s4; obtain ⟨f0, f1, f2, f3, f4, f5, f6, f7⟩ := enL s4; rw [HDD.out] at f2; rw [HZ.out])
              | (go_at_call 77; refine stampGood_c s2 ?_; rintro w3 s3; obtain ⟨e0, e1, e2, e3, e4, e5, e6, e7⟩ := enL s3; rw [HG2.out]; clear s2)
              | (go_at_call 77; refine stampGood_c s1 ?_; rintro w2 s2; obtain ⟨d0, d1, d2, d3, d4, d5, d6, d7⟩ := enL s2; rw [HG1.out]; clear s1))
            first
              | exact HK.out _ s5.drop
              | exact HK.out _ s4.drop
              | exact HK.out _ s3.drop
              | exact HK.out _ s2.drop
              | exact HK.out _ s1.drop
          | true =>
            cases g1 with
            | false =>
              replace K : ∀ w', St W w' R → post (.returned (.int .i64 1)) w' := K
              have HK := hid K; clear K
              go_enter Tryz.func41, Tryz.ntmps41
              go_wp2_with (first
                | (refine wpl_boxA (vs := e.cells) rfl (.tmp 0) rfl rfl st ?_; rintro T w1 s1; obtain ⟨c0, c1, c2, c3, c4, c5, c6, c7⟩ := enL s1; rw [HDD.out] at c2)
                | (go_at_call 79; refine plain_c s4 ?_; rintro w5 s5; obtain ⟨i0, i1, i2, i3, i4, i5, i6, i7⟩ := enL s5; rw [HDD.out] at i2; rw [HPL.out])
                | (go_at_call 80; refine kept_c s4 ?_; rintro w5 s5; rw [HKE.out])
                | (go_at_call 78; refine cmpS_c s3 ?_; rintro w4 s4; obtain ⟨f0, f1, f2, f3, f4, f5, f6, f7⟩ := enL s4; rw [HDD.out] at f2; rw [HZ.out])
                | (go_at_call 77; refine stampGood_c s2 ?_; rintro w3 s3; obtain ⟨e0, e1, e2, e3, e4, e5, e6, e7⟩ := enL s3; rw [HG2.out]; clear s2)
                | (go_at_call 77; refine stampGood_c s1 ?_; rintro w2 s2; obtain ⟨d0, d1, d2, d3, d4, d5, d6, d7⟩ := enL s2; rw [HG1.out]; clear s1))
              first
                | exact HK.out _ s5.drop
                | exact HK.out _ s4.drop
                | exact HK.out _ s3.drop
                | exact HK.out _ s2.drop
                | exact HK.out _ s1.drop
            | true =>
              cases g2 with
              | false =>
                replace K : ∀ w', St W w' R → post (.returned (.int .i64 1)) w' := K
                have HK := hid K; clear K
                go_enter Tryz.func41, Tryz.ntmps41
                go_wp2_with (first
                  | (refine wpl_boxA (vs := e.cells) rfl (.tmp 0) rfl rfl st ?_; rintro T w1 s1; obtain ⟨c0, c1, c2, c3, c4, c5, c6, c7⟩ := enL s1; rw [HDD.out] at c2)
                  | (go_at_call 79; refine plain_c s4 ?_; rintro w5 s5; obtain ⟨i0, i1, i2, i3, i4, i5, i6, i7⟩ := enL s5; rw [HDD.out] at i2; rw [HPL.out])
                  | (go_at_call 80; refine kept_c s4 ?_; rintro w5 s5; rw [HKE.out])
                  | (go_at_call 78; refine cmpS_c s3 ?_; rintro w4 s4; obtain ⟨f0, f1, f2, f3, f4, f5, f6, f7⟩ := enL s4; rw [HDD.out] at f2; rw [HZ.out])
                  | (go_at_call 77; refine stampGood_c s2 ?_; rintro w3 s3; obtain ⟨e0, e1, e2, e3, e4, e5, e6, e7⟩ := enL s3; rw [HG2.out]; clear s2)
                  | (go_at_call 77; refine stampGood_c s1 ?_; rintro w2 s2; obtain ⟨d0, d1, d2, d3, d4, d5, d6, d7⟩ := enL s2; rw [HG1.out]; clear s1))
                first
                  | exact HK.out _ s5.drop
                  | exact HK.out _ s4.drop
                  | exact HK.out _ s3.drop
                  | exact HK.out _ s2.drop
                  | exact HK.out _ s1.drop
              | true =>
                cases zb with
                | true =>
                  replace K : ∀ w', St W w' R → post (.returned (.int .i64 1)) w' := K
                  have HK := hid K; clear K
                  go_enter Tryz.func41, Tryz.ntmps41
                  go_wp2_with (first
                    | (refine wpl_boxA (vs := e.cells) rfl (.tmp 0) rfl rfl st ?_; rintro T w1 s1; obtain ⟨c0, c1, c2, c3, c4, c5, c6, c7⟩ := enL s1; rw [HDD.out] at c2)
                    | (go_at_call 79; refine plain_c s4 ?_; rintro w5 s5; obtain ⟨i0, i1, i2, i3, i4, i5, i6, i7⟩ := enL s5; rw [HDD.out] at i2; rw [HPL.out])
                    | (go_at_call 80; refine kept_c s4 ?_; rintro w5 s5; rw [HKE.out])
                    | (go_at_call 78; refine cmpS_c s3 ?_; rintro w4 s4; obtain ⟨f0, f1, f2, f3, f4, f5, f6, f7⟩ := enL s4; rw [HDD.out] at f2; rw [HZ.out])
                    | (go_at_call 77; refine stampGood_c s2 ?_; rintro w3 s3; obtain ⟨e0, e1, e2, e3, e4, e5, e6, e7⟩ := enL s3; rw [HG2.out]; clear s2)
                    | (go_at_call 77; refine stampGood_c s1 ?_; rintro w2 s2; obtain ⟨d0, d1, d2, d3, d4, d5, d6, d7⟩ := enL s2; rw [HG1.out]; clear s1))
                  first
                    | exact HK.out _ s5.drop
                    | exact HK.out _ s4.drop
                    | exact HK.out _ s3.drop
                    | exact HK.out _ s2.drop
                    | exact HK.out _ s1.drop
                | false =>
                  cases ke with
                  | false =>
                    replace K : ∀ w', St W w' R → post (.returned (.int .i64 1)) w' := K
                    have HK := hid K; clear K
                    go_enter Tryz.func41, Tryz.ntmps41
                    go_wp2_with (first
                      | (refine wpl_boxA (vs := e.cells) rfl (.tmp 0) rfl rfl st ?_; rintro T w1 s1; obtain ⟨c0, c1, c2, c3, c4, c5, c6, c7⟩ := enL s1; rw [HDD.out] at c2)
                      | (go_at_call 79; refine plain_c s4 ?_; rintro w5 s5; obtain ⟨i0, i1, i2, i3, i4, i5, i6, i7⟩ := enL s5; rw [HDD.out] at i2; rw [HPL.out])
                      | (go_at_call 80; refine kept_c s4 ?_; rintro w5 s5; rw [HKE.out])
                      | (go_at_call 78; refine cmpS_c s3 ?_; rintro w4 s4; obtain ⟨f0, f1, f2, f3, f4, f5, f6, f7⟩ := enL s4; rw [HDD.out] at f2; rw [HZ.out])
                      | (go_at_call 77; refine stampGood_c s2 ?_; rintro w3 s3; obtain ⟨e0, e1, e2, e3, e4, e5, e6, e7⟩ := enL s3; rw [HG2.out]; clear s2)
                      | (go_at_call 77; refine stampGood_c s1 ?_; rintro w2 s2; obtain ⟨d0, d1, d2, d3, d4, d5, d6, d7⟩ := enL s2; rw [HG1.out]; clear s1))
                    first
                      | exact HK.out _ s5.drop
                      | exact HK.out _ s4.drop
                      | exact HK.out _ s3.drop
                      | exact HK.out _ s2.drop
                      | exact HK.out _ s1.drop
                  | true =>
                    replace K : ∀ w', St W w' R → post (.returned (.int .i64 0)) w' := K
                    have HK := hid K; clear K
                    go_enter Tryz.func41, Tryz.ntmps41
                    go_wp2_with (first
                      | (refine wpl_boxA (vs := e.cells) rfl (.tmp 0) rfl rfl st ?_; rintro T w1 s1; obtain ⟨c0, c1, c2, c3, c4, c5, c6, c7⟩ := enL s1; rw [HDD.out] at c2)
                      | (go_at_call 79; refine plain_c s4 ?_; rintro w5 s5; obtain ⟨i0, i1, i2, i3, i4, i5, i6, i7⟩ := enL s5; rw [HDD.out] at i2; rw [HPL.out])
                      | (go_at_call 80; refine kept_c s4 ?_; rintro w5 s5; rw [HKE.out])
                      | (go_at_call 78; refine cmpS_c s3 ?_; rintro w4 s4; obtain ⟨f0, f1, f2, f3, f4, f5, f6, f7⟩ := enL s4; rw [HDD.out] at f2; rw [HZ.out])
                      | (go_at_call 77; refine stampGood_c s2 ?_; rintro w3 s3; obtain ⟨e0, e1, e2, e3, e4, e5, e6, e7⟩ := enL s3; rw [HG2.out]; clear s2)
                      | (go_at_call 77; refine stampGood_c s1 ?_; rintro w2 s2; obtain ⟨d0, d1, d2, d3, d4, d5, d6, d7⟩ := enL s2; rw [HG1.out]; clear s1))
                    first
                      | exact HK.out _ s5.drop
                      | exact HK.out _ s4.drop
                      | exact HK.out _ s3.drop
                      | exact HK.out _ s2.drop
                      | exact HK.out _ s1.drop
        | false =>
          cases g1 with
          | false =>
            replace K : ∀ w', St W w' R → post (.returned (.int .i64 1)) w' := K
            have HK := hid K; clear K
            go_enter Tryz.func41, Tryz.ntmps41
            go_wp2_with (first
              | (refine wpl_boxA (vs := e.cells) rfl (.tmp 0) rfl rfl st ?_; rintro T w1 s1; obtain ⟨c0, c1, c2, c3, c4, c5, c6, c7⟩ := enL s1; rw [HDD.out] at c2)
              | (go_at_call 79; refine plain_c s4 ?_; rintro w5 s5; obtain ⟨i0, i1, i2, i3, i4, i5, i6, i7⟩ := enL s5; rw [HDD.out] at i2; rw [HPL.out])
              | (go_at_call 80; refine kept_c s4 ?_; rintro w5 s5; rw [HKE.out])
              | (go_at_call 78; refine cmpS_c s3 ?_; rintro w4 s4; obtain ⟨f0, f1, f2, f3, f4, f5, f6, f7⟩ := enL s4; rw [HDD.out] at f2; rw [HZ.out])
              | (go_at_call 77; refine stampGood_c s2 ?_; rintro w3 s3; obtain ⟨e0, e1, e2, e3, e4, e5, e6, e7⟩ := enL s3; rw [HG2.out]; clear s2)
              | (go_at_call 77; refine stampGood_c s1 ?_; rintro w2 s2; obtain ⟨d0, d1, d2, d3, d4, d5, d6, d7⟩ := enL s2; rw [HG1.out]; clear s1))
            first
              | exact HK.out _ s5.drop
              | exact HK.out _ s4.drop
              | exact HK.out _ s3.drop
              | exact HK.out _ s2.drop
              | exact HK.out _ s1.drop
          | true =>
            cases g2 with
            | false =>
              replace K : ∀ w', St W w' R → post (.returned (.int .i64 1)) w' := K
              have HK := hid K; clear K
              go_enter Tryz.func41, Tryz.ntmps41
              go_wp2_with (first
                | (refine wpl_boxA (vs := e.cells) rfl (.tmp 0) rfl rfl st ?_; rintro T w1 s1; obtain ⟨c0, c1, c2, c3, c4, c5, c6, c7⟩ := enL s1; rw [HDD.out] at c2)
                | (go_at_call 79; refine plain_c s4 ?_; rintro w5 s5; obtain ⟨i0, i1, i2, i3, i4, i5, i6, i7⟩ := enL s5; rw [HDD.out] at i2; rw [HPL.out])
                | (go_at_call 80; refine kept_c s4 ?_; rintro w5 s5; rw [HKE.out])
                | (go_at_call 78; refine cmpS_c s3 ?_; rintro w4 s4; obtain ⟨f0, f1, f2, f3, f4, f5, f6, f7⟩ := enL s4; rw [HDD.out] at f2; rw [HZ.out])
                | (go_at_call 77; refine stampGood_c s2 ?_; rintro w3 s3; obtain ⟨e0, e1, e2, e3, e4, e5, e6, e7⟩ := enL s3; rw [HG2.out]; clear s2)
                | (go_at_call 77; refine stampGood_c s1 ?_; rintro w2 s2; obtain ⟨d0, d1, d2, d3, d4, d5, d6, d7⟩ := enL s2; rw [HG1.out]; clear s1))
              first
                | exact HK.out _ s5.drop
                | exact HK.out _ s4.drop
                | exact HK.out _ s3.drop
                | exact HK.out _ s2.drop
                | exact HK.out _ s1.drop
            | true =>
              cases zb with
              | true =>
                replace K : ∀ w', St W w' R → post (.returned (.int .i64 1)) w' := K
                have HK := hid K; clear K
                go_enter Tryz.func41, Tryz.ntmps41
                go_wp2_with (first
                  | (refine wpl_boxA (vs := e.cells) rfl (.tmp 0) rfl rfl st ?_; rintro T w1 s1; obtain ⟨c0, c1, c2, c3, c4, c5, c6, c7⟩ := enL s1; rw [HDD.out] at c2)
                  | (go_at_call 79; refine plain_c s4 ?_; rintro w5 s5; obtain ⟨i0, i1, i2, i3, i4, i5, i6, i7⟩ := enL s5; rw [HDD.out] at i2; rw [HPL.out])
                  | (go_at_call 80; refine kept_c s4 ?_; rintro w5 s5; rw [HKE.out])
                  | (go_at_call 78; refine cmpS_c s3 ?_; rintro w4 s4; obtain ⟨f0, f1, f2, f3, f4, f5, f6, f7⟩ := enL s4; rw [HDD.out] at f2; rw [HZ.out])
                  | (go_at_call 77; refine stampGood_c s2 ?_; rintro w3 s3; obtain ⟨e0, e1, e2, e3, e4, e5, e6, e7⟩ := enL s3; rw [HG2.out]; clear s2)
                  | (go_at_call 77; refine stampGood_c s1 ?_; rintro w2 s2; obtain ⟨d0, d1, d2, d3, d4, d5, d6, d7⟩ := enL s2; rw [HG1.out]; clear s1))
                first
                  | exact HK.out _ s5.drop
                  | exact HK.out _ s4.drop
                  | exact HK.out _ s3.drop
                  | exact HK.out _ s2.drop
                  | exact HK.out _ s1.drop
              | false =>
                cases pl with
                | false =>
                  replace K : ∀ w', St W w' R → post (.returned (.int .i64 1)) w' := K
                  have HK := hid K; clear K
                  go_enter Tryz.func41, Tryz.ntmps41
                  go_wp2_with (first
                    | (refine wpl_boxA (vs := e.cells) rfl (.tmp 0) rfl rfl st ?_; rintro T w1 s1; obtain ⟨c0, c1, c2, c3, c4, c5, c6, c7⟩ := enL s1; rw [HDD.out] at c2)
                    | (go_at_call 79; refine plain_c s4 ?_; rintro w5 s5; obtain ⟨i0, i1, i2, i3, i4, i5, i6, i7⟩ := enL s5; rw [HDD.out] at i2; rw [HPL.out])
                    | (go_at_call 80; refine kept_c s4 ?_; rintro w5 s5; rw [HKE.out])
                    | (go_at_call 78; refine cmpS_c s3 ?_; rintro w4 s4; obtain ⟨f0, f1, f2, f3, f4, f5, f6, f7⟩ := enL s4; rw [HDD.out] at f2; rw [HZ.out])
                    | (go_at_call 77; refine stampGood_c s2 ?_; rintro w3 s3; obtain ⟨e0, e1, e2, e3, e4, e5, e6, e7⟩ := enL s3; rw [HG2.out]; clear s2)
                    | (go_at_call 77; refine stampGood_c s1 ?_; rintro w2 s2; obtain ⟨d0, d1, d2, d3, d4, d5, d6, d7⟩ := enL s2; rw [HG1.out]; clear s1))
                  first
                    | exact HK.out _ s5.drop
                    | exact HK.out _ s4.drop
                    | exact HK.out _ s3.drop
                    | exact HK.out _ s2.drop
                    | exact HK.out _ s1.drop
                | true =>
                  replace K : ∀ w', St W w' R → post (.returned (.int .i64 0)) w' := K
                  have HK := hid K; clear K
                  go_enter Tryz.func41, Tryz.ntmps41
                  go_wp2_with (first
                    | (refine wpl_boxA (vs := e.cells) rfl (.tmp 0) rfl rfl st ?_; rintro T w1 s1; obtain ⟨c0, c1, c2, c3, c4, c5, c6, c7⟩ := enL s1; rw [HDD.out] at c2)
                    | (go_at_call 79; refine plain_c s4 ?_; rintro w5 s5; obtain ⟨i0, i1, i2, i3, i4, i5, i6, i7⟩ := enL s5; rw [HDD.out] at i2; rw [HPL.out])
                    | (go_at_call 80; refine kept_c s4 ?_; rintro w5 s5; rw [HKE.out])
                    | (go_at_call 78; refine cmpS_c s3 ?_; rintro w4 s4; obtain ⟨f0, f1, f2, f3, f4, f5, f6, f7⟩ := enL s4; rw [HDD.out] at f2; rw [HZ.out])
                    | (go_at_call 77; refine stampGood_c s2 ?_; rintro w3 s3; obtain ⟨e0, e1, e2, e3, e4, e5, e6, e7⟩ := enL s3; rw [HG2.out]; clear s2)
                    | (go_at_call 77; refine stampGood_c s1 ?_; rintro w2 s2; obtain ⟨d0, d1, d2, d3, d4, d5, d6, d7⟩ := enL s2; rw [HG1.out]; clear s1))
                  first
                    | exact HK.out _ s5.drop
                    | exact HK.out _ s4.drop
                    | exact HK.out _ s3.drop
                    | exact HK.out _ s2.drop
                    | exact HK.out _ s1.drop

set_option maxRecDepth 100000 in
theorem goodEntry_c (st : St W w R) (K : ∀ w', St W w' R → post (.returned (.bool (enF e))) w') : Calls Tryz.prog 91 #[.agg e.cells.toArray] w post := by
  have HK := hid K; clear K
  go_enter Tryz.func91, Tryz.ntmps91
  go_wp2_with (first
    | (refine wpl_boxA (vs := e.cells) rfl (.tmp 0) rfl rfl st ?_; rintro T w1 s1; obtain ⟨c0, c1, c2, c3, c4, c5, c6, c7⟩ := enL s1)
    | (go_at_call 41; refine check_c s1 ?_; rintro w2 s2))
  exact HK.out _ s2.drop
end

end Go.Proofs.YtpjdcijphnkioaaGreatDoor

/- Lists of marks, of entries: may all of them be? Printed by mkMarkC.py. -/
namespace Go.Proofs.YtpjdcijphnkioaaGreatDoor
open Go.RowKit Go.Qd
attribute [local go_sem ↓] execOp_ldAny

def mkC (l : List MkV) : List Value := (l.map MkV.cells).flatten
def enC (l : List EnV) : List Value := (l.map EnV.cells).flatten
def two2 (x y : Int) : Value := .agg #[.int .i64 x, .int .i64 y]

theorem mkC_sz (l : List MkV) : (mkC l).length = l.length * 3 := by
  induction l with
  | nil => rfl
  | cons x l ih => show (x.cells ++ mkC l).length = _; rw [List.length_append, ih, List.length_cons]; simp [MkV.cells]; omega
theorem mkC_get {l : List MkV} {i : Nat} (hi : i < l.length) {j : Nat} {u : Value} (h : l[i].cells[j]? = some u) : (mkC l)[i * 3 + j]? = some u := by
  have hj : j < 3 := by
    rcases Nat.lt_or_ge j 3 with g | g
    · exact g
    · rw [List.getElem?_eq_none (by simpa [MkV.cells] using g)] at h; cases h
  have := flat_get (css := l.map MkV.cells) (sz := 3) (fun cs hc => by obtain ⟨x, _, rfl⟩ := List.mem_map.1 hc; rfl) (i := i) (by simpa using hi) (j := j) hj
  unfold mkC; rw [this, List.getElem_map]; exact h
theorem mkC_ld {w : World} {b o n c i : Nat} {l : List MkV} (rd : RdS w 3 (some ⟨b, o, none⟩) n c (mkC l)) (hi : i < l.length) :
    (loadG 77 (.pointer (some ⟨b, o + i * 3, none⟩))).run Tryz.prog w = .ok (.agg l[i].cells.toArray) w :=
  run_loadG agg_mk rfl (fun _ _ hu => rd.at2 (mkC_get hi hu))
theorem mkC_ln {w : World} {ao : Option Addr} {n c : Nat} {l : List MkV} (rd : RdS w 3 ao n c (mkC l)) : l.length = n := by have := rd.len; rw [mkC_sz] at this; omega
def mkCAny (l : List MkV) : Bool := l.any fun x => !markB x
theorem mkC_snoc {l : List MkV} {i : Nat} (h : i < l.length) : mkCAny (l.take (i + 1)) = (mkCAny (l.take i) || !markB l[i]) := by
  unfold mkCAny; rw [List.take_succ_eq_append_getElem h, List.any_append]; simp
theorem mkC_yes {l : List MkV} {i : Nat} (h : i < l.length) (hg : markB l[i] = false) : mkCAny l = true := by
  unfold mkCAny; exact List.any_eq_true.2 ⟨_, List.getElem_mem h, by simp [hg]⟩

section
variable {W w : World} {R : List HP} {post : Ending → World → Prop}

theorem mkC_pred {B : Nat} {x : MkV} (s : St W w (row B 0 [Value.func (.func 87) #[] #[]] :: R))
    (K : ∀ w', St W w' (row B 0 [Value.func (.func 87) #[] #[]] :: R) → post (.returned (.bool (!markB x))) w') : Calls Tryz.prog 145 #[.agg x.cells.toArray, .pointer (some ⟨B, 0, none⟩)] w post := by
  have HK := hid K; clear K
  go_enter Tryz.func145, Tryz.ntmps145
  go_wp2_with (first
    | (refine wpl_boxA (vs := x.cells) rfl (.tmp 0) rfl rfl s ?_; rintro T w1 s1; have c0 : (loadG 213 (.pointer (some ⟨B, 0, none⟩))).run Tryz.prog w1 = .ok (Value.func (.func 87) #[] #[]) w1 := run_ldP (by kernel_rfl) ((St.pick 1 s1).rowCell (i := 0) rfl)
       have c1 : (loadG 77 (.pointer (some ⟨T, 0, none⟩))).run Tryz.prog w1 = .ok (.agg x.cells.toArray) w1 := run_loadG (o := 0) agg_mk rfl s1.rowAll)
    | (go_at_call 87; refine goodMark_c s1 ?_; rintro w2 s2))
  exact HK.out _ s2.drop

set_option maxRecDepth 100000 in
set_option maxHeartbeats 4000000 in
theorem mkC_idx {B : Nat} {a : Option Addr} {n c : Nat} {l : List MkV} (hp : Rds W (row B 0 [Value.func (.func 87) #[] #[]] :: R) 3 a n c (mkC l)) (hn : n ≤ 4096) (st : St W w (row B 0 [Value.func (.func 87) #[] #[]] :: R))
    (K : ∀ w' r, St W w' (row B 0 [Value.func (.func 87) #[] #[]] :: R) → decide (0 ≤ r) = mkCAny l → post (.returned (.int .i64 r)) w') : Calls Tryz.prog 184 #[.slice a n c, .func (.func 145) #[] #[.pointer (some ⟨B, 0, none⟩)]] w post := by
  have HK := hid K; clear K
  have HN : Hid (l.length = n) := hid (mkC_ln (hp w st))
  go_enter Tryz.func184, Tryz.ntmps184
  go_wp2_with fail
  go_loopw [8] (fun ii wr => ∃ i : Nat, i ≤ n ∧ ii = .int .i64 i ∧ mkCAny (l.take i) = false ∧ St W wr (row B 0 [Value.func (.func 87) #[] #[]] :: R)) (fun ii _ => n - (intOf ii).toNat)
  case atStart => exact ⟨0, Nat.zero_le _, rfl, rfl, st⟩
  case round =>
    obtain ⟨i, hi, rfl, hg, sr⟩ := hrel
    have HG := hid hg; clear hg
    by_cases hlt : i < n
    · have rd := hp _ sr
      obtain ⟨g3, o3, rfl⟩ := rd.addr (by omega)
      have hiA : i < l.length := by rw [HN.out]; exact hlt
      have ci := mkC_ld rd hiA
      have HS := hid (mkC_snoc hiA)
      have hT := mkC_yes hiA
      obtain ⟨q, hq⟩ : ∃ q, l[i] = q := ⟨_, rfl⟩
      rw [hq] at ci HS hT
      obtain ⟨b, hb⟩ : ∃ b, markB q = b := ⟨_, rfl⟩
      have HB := hid hb
      have HT : Hid (b = false → mkCAny l = true) := hid (fun h => hT (by rw [hb, h]))
      rw [hb] at HS
      clear hq hb rd hT
      have hi2 : (i : Int) < (n : Int) := by omega
      cases b with
      | false =>
        have HA := hid (HT.out rfl)
        clear HT
        go_wp2_with (go_at_call 145; refine mkC_pred sr ?_; rintro w6 s6; rw [HB.out])
        exact HK.out _ _ s6 (by rw [HA.out]; exact decide_eq_true (by omega))
      | true =>
        go_wp2_with (go_at_call 145; refine mkC_pred sr ?_; rintro w6 s6; rw [HB.out])
        go_roundw
        case rel => exact ⟨i + 1, by omega, by go_num, by rw [HS.out, HG.out]; rfl, s6⟩
        case measure => simp [intOf]; omega
    · have hie : i = n := by omega
      subst hie
      have hg := HG.out
      rw [List.take_of_length_le (by rw [HN.out]; exact Nat.le_refl _)] at hg
      have HG2 := hid hg; clear hg
      go_wp2_with fail
      exact HK.out _ _ sr (by rw [HG2.out]; rfl)

set_option maxRecDepth 100000 in
theorem mkC_cont {B : Nat} {a : Option Addr} {n c : Nat} {l : List MkV} (hp : Rds W (row B 0 [Value.func (.func 87) #[] #[]] :: R) 3 a n c (mkC l)) (hn : n ≤ 4096) (st : St W w (row B 0 [Value.func (.func 87) #[] #[]] :: R))
    (K : ∀ w', St W w' (row B 0 [Value.func (.func 87) #[] #[]] :: R) → post (.returned (.bool (mkCAny l))) w') : Calls Tryz.prog 144 #[.slice a n c, .func (.func 145) #[] #[.pointer (some ⟨B, 0, none⟩)]] w post := by
  have HK := hid K; clear K
  go_enter Tryz.func144, Tryz.ntmps144
  go_wp2_with (go_at_call 184; refine mkC_idx hp hn st ?_; rintro w1 r s1 hr)

  exact HK.out _ s1

def mkCAll (lo hi : Int) (l : List MkV) : Bool := decide (lo ≤ (l.length : Int)) && (decide ((l.length : Int) ≤ hi) && !mkCAny l)
set_option maxRecDepth 100000 in
set_option maxHeartbeats 4000000 in
theorem mkCAll_c {lo hi : Int} {a : Option Addr} {n c : Nat} {l : List MkV} (hp : Rds W R 3 a n c (mkC l)) (hn : n ≤ 4096) (st : St W w R)
    (K : ∀ w', St W w' R → post (.returned (.bool (mkCAll lo hi l))) w') : Calls Tryz.prog 89 #[.slice a n c, two2 lo hi, .func (.func 87) #[] #[]] w post := by
  have hl : l.length = n := mkC_ln (hp w st)
  unfold mkCAll at K
  rw [hl] at K
  have s1 := st.alloc #[.int .i64 lo, .int .i64 hi] 206
  have k0 := s1.rowCell (i := 0) rfl
  have k1 := s1.rowCell (i := 1) rfl
  rw [Nat.zero_add] at k1
  have s2 : St W ((w.alloc (.cells #[.int .i64 lo, .int .i64 hi] 206)).alloc (.cells #[.func (.func 87) #[] #[]] 213)) (row (w.heap.size + 1) 0 [Value.func (.func 87) #[] #[]] :: row w.heap.size 0 [.int .i64 lo, .int .i64 hi] :: R) := by
    have := s1.alloc #[.func (.func 87) #[] #[]] 213
    simpa using this
  have c0 := run_ldP (t := 3) (by kernel_rfl) ((St.pick 1 s2).rowCell (i := 0) rfl)
  have c1 := run_ldP (t := 3) (by kernel_rfl) ((St.pick 1 s2).rowCell (i := 1) rfl)
  rw [Nat.zero_add] at c1
  clear k0 k1 hl
  unfold two2
  by_cases h1 : lo ≤ (n : Int)
  · have h1' : decide ((n : Int) < lo) = false := decide_eq_false (by omega)
    rw [decide_eq_true h1] at K
    by_cases h2 : (n : Int) ≤ hi
    · have h2' : decide (hi < (n : Int)) = false := decide_eq_false (by omega)
      rw [decide_eq_true h2] at K
      simp only [Bool.true_and] at K
      have HK := hid K; clear K
      clear h1 h2
      go_enter Tryz.func89, Tryz.ntmps89
      go_wp2_with (go_at_call 144; refine mkC_cont hp.cons.cons hn s2 ?_; rintro w3 s3)
      exact HK.out _ (s3.dropN 2)
    · have h2' : decide (hi < (n : Int)) = true := decide_eq_true (by omega)
      rw [decide_eq_false h2] at K
      simp only [Bool.true_and, Bool.false_and] at K
      have HK := hid K; clear K
      clear h1 h2
      go_enter Tryz.func89, Tryz.ntmps89
      go_wp2_with fail
      exact HK.out _ (s2.dropN 2)
  · have h1' : decide ((n : Int) < lo) = true := decide_eq_true (by omega)
    rw [decide_eq_false h1] at K
    simp only [Bool.false_and] at K
    have HK := hid K; clear K
    clear h1
    go_enter Tryz.func89, Tryz.ntmps89
    go_wp2_with fail
    exact HK.out _ (s2.dropN 2)
end

theorem enC_sz (l : List EnV) : (enC l).length = l.length * 9 := by
  induction l with
  | nil => rfl
  | cons x l ih => show (x.cells ++ enC l).length = _; rw [List.length_append, ih, List.length_cons]; simp [EnV.cells]; omega
theorem enC_get {l : List EnV} {i : Nat} (hi : i < l.length) {j : Nat} {u : Value} (h : l[i].cells[j]? = some u) : (enC l)[i * 9 + j]? = some u := by
  have hj : j < 9 := by
    rcases Nat.lt_or_ge j 9 with g | g
    · exact g
    · rw [List.getElem?_eq_none (by simpa [EnV.cells] using g)] at h; cases h
  have := flat_get (css := l.map EnV.cells) (sz := 9) (fun cs hc => by obtain ⟨x, _, rfl⟩ := List.mem_map.1 hc; rfl) (i := i) (by simpa using hi) (j := j) hj
  unfold enC; rw [this, List.getElem_map]; exact h
theorem enC_ld {w : World} {b o n c i : Nat} {l : List EnV} (rd : RdS w 9 (some ⟨b, o, none⟩) n c (enC l)) (hi : i < l.length) :
    (loadG 66 (.pointer (some ⟨b, o + i * 9, none⟩))).run Tryz.prog w = .ok (.agg l[i].cells.toArray) w :=
  run_loadG agg_en rfl (fun _ _ hu => rd.at2 (enC_get hi hu))
theorem enC_ln {w : World} {ao : Option Addr} {n c : Nat} {l : List EnV} (rd : RdS w 9 ao n c (enC l)) : l.length = n := by have := rd.len; rw [enC_sz] at this; omega
def enCAny (l : List EnV) : Bool := l.any fun x => !enF x
theorem enC_snoc {l : List EnV} {i : Nat} (h : i < l.length) : enCAny (l.take (i + 1)) = (enCAny (l.take i) || !enF l[i]) := by
  unfold enCAny; rw [List.take_succ_eq_append_getElem h, List.any_append]; simp
theorem enC_yes {l : List EnV} {i : Nat} (h : i < l.length) (hg : enF l[i] = false) : enCAny l = true := by
  unfold enCAny; exact List.any_eq_true.2 ⟨_, List.getElem_mem h, by simp [hg]⟩

section
variable {W w : World} {R : List HP} {post : Ending → World → Prop}

theorem enC_pred {B : Nat} {x : EnV} (s : St W w (row B 0 [Value.func (.func 91) #[] #[]] :: R))
    (K : ∀ w', St W w' (row B 0 [Value.func (.func 91) #[] #[]] :: R) → post (.returned (.bool (!enF x))) w') : Calls Tryz.prog 147 #[.agg x.cells.toArray, .pointer (some ⟨B, 0, none⟩)] w post := by
  have HK := hid K; clear K
  go_enter Tryz.func147, Tryz.ntmps147
  go_wp2_with (first
    | (refine wpl_boxA (vs := x.cells) rfl (.tmp 0) rfl rfl s ?_; rintro T w1 s1; have c0 : (loadG 180 (.pointer (some ⟨B, 0, none⟩))).run Tryz.prog w1 = .ok (Value.func (.func 91) #[] #[]) w1 := run_ldP (by kernel_rfl) ((St.pick 1 s1).rowCell (i := 0) rfl)
       have c1 : (loadG 66 (.pointer (some ⟨T, 0, none⟩))).run Tryz.prog w1 = .ok (.agg x.cells.toArray) w1 := run_loadG (o := 0) agg_en rfl s1.rowAll)
    | (go_at_call 91; refine goodEntry_c s1 ?_; rintro w2 s2))
  exact HK.out _ s2.drop

set_option maxRecDepth 100000 in
set_option maxHeartbeats 4000000 in
theorem enC_idx {B : Nat} {a : Option Addr} {n c : Nat} {l : List EnV} (hp : Rds W (row B 0 [Value.func (.func 91) #[] #[]] :: R) 9 a n c (enC l)) (hn : n ≤ 4096) (st : St W w (row B 0 [Value.func (.func 91) #[] #[]] :: R))
    (K : ∀ w' r, St W w' (row B 0 [Value.func (.func 91) #[] #[]] :: R) → decide (0 ≤ r) = enCAny l → post (.returned (.int .i64 r)) w') : Calls Tryz.prog 185 #[.slice a n c, .func (.func 147) #[] #[.pointer (some ⟨B, 0, none⟩)]] w post := by
  have HK := hid K; clear K
  have HN : Hid (l.length = n) := hid (enC_ln (hp w st))
  go_enter Tryz.func185, Tryz.ntmps185
  go_wp2_with fail
  go_loopw [8] (fun ii wr => ∃ i : Nat, i ≤ n ∧ ii = .int .i64 i ∧ enCAny (l.take i) = false ∧ St W wr (row B 0 [Value.func (.func 91) #[] #[]] :: R)) (fun ii _ => n - (intOf ii).toNat)
  case atStart => exact ⟨0, Nat.zero_le _, rfl, rfl, st⟩
  case round =>
    obtain ⟨i, hi, rfl, hg, sr⟩ := hrel
    have HG := hid hg; clear hg
    by_cases hlt : i < n
    · have rd := hp _ sr
      obtain ⟨g3, o3, rfl⟩ := rd.addr (by omega)
      have hiA : i < l.length := by rw [HN.out]; exact hlt
      have ci := enC_ld rd hiA
      have HS := hid (enC_snoc hiA)
      have hT := enC_yes hiA
      obtain ⟨q, hq⟩ : ∃ q, l[i] = q := ⟨_, rfl⟩
      rw [hq] at ci HS hT
      obtain ⟨b, hb⟩ : ∃ b, enF q = b := ⟨_, rfl⟩
      have HB := hid hb
      have HT : Hid (b = false → enCAny l = true) := hid (fun h => hT (by rw [hb, h]))
      rw [hb] at HS
      clear hq hb rd hT
      have hi2 : (i : Int) < (n : Int) := by omega
      cases b with
      | false =>
        have HA := hid (HT.out rfl)
        clear HT
        go_wp2_with (go_at_call 147; refine enC_pred sr ?_; rintro w6 s6; rw [HB.out])
        exact HK.out _ _ s6 (by rw [HA.out]; exact decide_eq_true (by omega))
      | true =>
        go_wp2_with (go_at_call 147; refine enC_pred sr ?_; rintro w6 s6; rw [HB.out])
        go_roundw
        case rel => exact ⟨i + 1, by omega, by go_num, by rw [HS.out, HG.out]; rfl, s6⟩
        case measure => simp [intOf]; omega
    · have hie : i = n := by omega
      subst hie
      have hg := HG.out
      rw [List.take_of_length_le (by rw [HN.out]; exact Nat.le_refl _)] at hg
      have HG2 := hid hg; clear hg
      go_wp2_with fail
      exact HK.out _ _ sr (by rw [HG2.out]; rfl)

set_option maxRecDepth 100000 in
theorem enC_cont {B : Nat} {a : Option Addr} {n c : Nat} {l : List EnV} (hp : Rds W (row B 0 [Value.func (.func 91) #[] #[]] :: R) 9 a n c (enC l)) (hn : n ≤ 4096) (st : St W w (row B 0 [Value.func (.func 91) #[] #[]] :: R))
    (K : ∀ w', St W w' (row B 0 [Value.func (.func 91) #[] #[]] :: R) → post (.returned (.bool (enCAny l))) w') : Calls Tryz.prog 146 #[.slice a n c, .func (.func 147) #[] #[.pointer (some ⟨B, 0, none⟩)]] w post := by
  have HK := hid K; clear K
  go_enter Tryz.func146, Tryz.ntmps146
  go_wp2_with (go_at_call 185; refine enC_idx hp hn st ?_; rintro w1 r s1 hr)

  exact HK.out _ s1

def enCAll (lo hi : Int) (l : List EnV) : Bool := decide (lo ≤ (l.length : Int)) && (decide ((l.length : Int) ≤ hi) && !enCAny l)
set_option maxRecDepth 100000 in
set_option maxHeartbeats 4000000 in
theorem enCAll_c {lo hi : Int} {a : Option Addr} {n c : Nat} {l : List EnV} (hp : Rds W R 9 a n c (enC l)) (hn : n ≤ 4096) (st : St W w R)
    (K : ∀ w', St W w' R → post (.returned (.bool (enCAll lo hi l))) w') : Calls Tryz.prog 90 #[.slice a n c, two2 lo hi, .func (.func 91) #[] #[]] w post := by
  have hl : l.length = n := enC_ln (hp w st)
  unfold enCAll at K
  rw [hl] at K
  have s1 := st.alloc #[.int .i64 lo, .int .i64 hi] 206
  have k0 := s1.rowCell (i := 0) rfl
  have k1 := s1.rowCell (i := 1) rfl
  rw [Nat.zero_add] at k1
  have s2 : St W ((w.alloc (.cells #[.int .i64 lo, .int .i64 hi] 206)).alloc (.cells #[.func (.func 91) #[] #[]] 180)) (row (w.heap.size + 1) 0 [Value.func (.func 91) #[] #[]] :: row w.heap.size 0 [.int .i64 lo, .int .i64 hi] :: R) := by
    have := s1.alloc #[.func (.func 91) #[] #[]] 180
    simpa using this
  have c0 := run_ldP (t := 3) (by kernel_rfl) ((St.pick 1 s2).rowCell (i := 0) rfl)
  have c1 := run_ldP (t := 3) (by kernel_rfl) ((St.pick 1 s2).rowCell (i := 1) rfl)
  rw [Nat.zero_add] at c1
  clear k0 k1 hl
  unfold two2
  by_cases h1 : lo ≤ (n : Int)
  · have h1' : decide ((n : Int) < lo) = false := decide_eq_false (by omega)
    rw [decide_eq_true h1] at K
    by_cases h2 : (n : Int) ≤ hi
    · have h2' : decide (hi < (n : Int)) = false := decide_eq_false (by omega)
      rw [decide_eq_true h2] at K
      simp only [Bool.true_and] at K
      have HK := hid K; clear K
      clear h1 h2
      go_enter Tryz.func90, Tryz.ntmps90
      go_wp2_with (go_at_call 146; refine enC_cont hp.cons.cons hn s2 ?_; rintro w3 s3)
      exact HK.out _ (s3.dropN 2)
    · have h2' : decide (hi < (n : Int)) = true := decide_eq_true (by omega)
      rw [decide_eq_false h2] at K
      simp only [Bool.true_and, Bool.false_and] at K
      have HK := hid K; clear K
      clear h1 h2
      go_enter Tryz.func90, Tryz.ntmps90
      go_wp2_with fail
      exact HK.out _ (s2.dropN 2)
  · have h1' : decide ((n : Int) < lo) = true := decide_eq_true (by omega)
    rw [decide_eq_false h1] at K
    simp only [Bool.false_and] at K
    have HK := hid K; clear K
    clear h1
    go_enter Tryz.func90, Tryz.ntmps90
    go_wp2_with fail
    exact HK.out _ (s2.dropN 2)
end

end Go.Proofs.YtpjdcijphnkioaaGreatDoor

/- The document's stamps, marks, entries as the program's, and back. Printed by mkOfA.py. -/
namespace Go.Proofs.YtpjdcijphnkioaaGreatDoor
open Go.RowKit Go.Qd

theorem mk_one (x : MkV) : ∀ u ∈ x.cells, u.oneCell' = true := by
  intro u hu; simp only [MkV.cells, List.mem_cons, List.not_mem_nil, or_false] at hu
  rcases hu with rfl | rfl | rfl <;> rfl
theorem en_one (x : EnV) : ∀ u ∈ x.cells, u.oneCell' = true := by
  intro u hu; simp only [EnV.cells, List.mem_cons, List.not_mem_nil, or_false] at hu
  rcases hu with rfl | rfl | rfl | rfl | rfl | rfl | rfl | rfl | rfl <;> rfl
theorem box2c {W w : World} {R : List HP} {B : Nat} {x y : Value} (s : St W w (row B 0 [x, y] :: R)) : w.cell? ⟨B, 0, none⟩ = some x ∧ w.cell? ⟨B, 1, none⟩ = some y :=
  ⟨s.rowCell (i := 0) rfl, by have := s.rowCell (i := 1) rfl; rwa [Nat.zero_add] at this⟩
def mk0 : MkV := ⟨0, 0, ByteArray.empty⟩
def en0 : EnV := ⟨ByteArray.empty, ByteArray.empty, false, 0, 0, 0, 0, 0, 0⟩
theorem agg_rst : AggT Tryz.prog 129 2 := ⟨⟨_, Tryz.underlying129, rfl⟩, by kernel_rfl⟩
theorem agg_rmk : AggT Tryz.prog 394 3 := ⟨⟨_, Tryz.underlying394, rfl⟩, by kernel_rfl⟩
theorem agg_ren : AggT Tryz.prog 131 9 := ⟨⟨_, Tryz.underlying131, rfl⟩, by kernel_rfl⟩

theorem zero_stOf (w : World) : (zeroValue 64).run Tryz.prog w = .ok (.agg [Value.int .i64 0, .int .i64 0].toArray) w := by kernel_rfl
theorem zero_mkOf (w : World) : (zeroValue 77).run Tryz.prog w = .ok (.agg mk0.cells.toArray) w := by kernel_rfl
theorem zero_enOf (w : World) : (zeroValue 66).run Tryz.prog w = .ok (.agg en0.cells.toArray) w := by kernel_rfl

section
variable {W w : World} {R : List HP} {post : Ending → World → Prop}

attribute [local go_sem ↓] execOp_ldAny
theorem mkLOf {T : Nat} {m : MkV} (h : St W w (row T 0 m.cells :: R)) :
    (loadG 129 (.pointer (some ⟨T, 0, none⟩))).run Tryz.prog w = .ok (.agg [Value.int .i64 m.c, .int .i64 m.s].toArray) w ∧ (loadG 9 (.pointer (some ⟨T, 2, none⟩))).run Tryz.prog w = .ok (.string m.key) w := by
  have c2 := h.rowCell (i := 2) (v := .string m.key) rfl
  rw [Nat.zero_add] at c2
  exact ⟨run_loadG (o := 0) agg_rst (vs := [.int .i64 m.c, .int .i64 m.s]) rfl (fun j u hu => by have := St.rowPart h 0 (xs := [.int .i64 m.c, .int .i64 m.s]) (ys := [.string m.key]) rfl j u hu; simpa using this), run_ldP (by kernel_rfl) c2⟩
theorem enLOf {T : Nat} {e : EnV} (h : St W w (row T 0 e.cells :: R)) :
    (loadG 9 (.pointer (some ⟨T, 0, none⟩))).run Tryz.prog w = .ok (.string e.key) w ∧ (loadG 9 (.pointer (some ⟨T, 1, none⟩))).run Tryz.prog w = .ok (.string e.val) w ∧ (loadG 4 (.pointer (some ⟨T, 2, none⟩))).run Tryz.prog w = .ok (.bool e.dead) w ∧
    (loadG 129 (.pointer (some ⟨T, 3, none⟩))).run Tryz.prog w = .ok (.agg [Value.int .i64 e.sc, .int .i64 e.ss].toArray) w ∧ (loadG 129 (.pointer (some ⟨T, 5, none⟩))).run Tryz.prog w = .ok (.agg [Value.int .i64 e.ac, .int .i64 e.az].toArray) w ∧
    (loadG 3 (.pointer (some ⟨T, 7, none⟩))).run Tryz.prog w = .ok (.int .i64 e.kp) w ∧ (loadG 3 (.pointer (some ⟨T, 8, none⟩))).run Tryz.prog w = .ok (.int .i64 e.age) w := by
  have f : ∀ i v, e.cells[i]? = some v → w.cell? ⟨T, i, none⟩ = some v := fun i v hv => by have := h.rowCell hv; rwa [Nat.zero_add] at this
  refine ⟨run_ldP (by kernel_rfl) (f 0 _ rfl), run_ldP (by kernel_rfl) (f 1 _ rfl), run_ldP (by kernel_rfl) (f 2 _ rfl), ?_, ?_, run_ldP (by kernel_rfl) (f 7 _ rfl), run_ldP (by kernel_rfl) (f 8 _ rfl)⟩
  · exact run_loadG (o := 0 + 3) agg_rst (vs := [.int .i64 e.sc, .int .i64 e.ss]) rfl (St.rowPart h 3 (xs := [.int .i64 e.sc, .int .i64 e.ss]) (ys := [.int .i64 e.ac, .int .i64 e.az, .int .i64 e.kp, .int .i64 e.age]) rfl)
  · exact run_loadG (o := 0 + 5) agg_rst (vs := [.int .i64 e.ac, .int .i64 e.az]) rfl (St.rowPart h 5 (xs := [.int .i64 e.ac, .int .i64 e.az]) (ys := [.int .i64 e.kp, .int .i64 e.age]) rfl)

end

theorem zero_stTo (w : World) : (zeroValue 129).run Tryz.prog w = .ok (.agg [Value.int .i64 0, .int .i64 0].toArray) w := by kernel_rfl
theorem zero_mkTo (w : World) : (zeroValue 394).run Tryz.prog w = .ok (.agg mk0.cells.toArray) w := by kernel_rfl
theorem zero_enTo (w : World) : (zeroValue 131).run Tryz.prog w = .ok (.agg en0.cells.toArray) w := by kernel_rfl

section
variable {W w : World} {R : List HP} {post : Ending → World → Prop}

attribute [local go_sem ↓] execOp_ldAny
theorem mkLTo {T : Nat} {m : MkV} (h : St W w (row T 0 m.cells :: R)) :
    (loadG 64 (.pointer (some ⟨T, 0, none⟩))).run Tryz.prog w = .ok (.agg [Value.int .i64 m.c, .int .i64 m.s].toArray) w ∧ (loadG 9 (.pointer (some ⟨T, 2, none⟩))).run Tryz.prog w = .ok (.string m.key) w := by
  have c2 := h.rowCell (i := 2) (v := .string m.key) rfl
  rw [Nat.zero_add] at c2
  exact ⟨run_loadG (o := 0) agg_st (vs := [.int .i64 m.c, .int .i64 m.s]) rfl (fun j u hu => by have := St.rowPart h 0 (xs := [.int .i64 m.c, .int .i64 m.s]) (ys := [.string m.key]) rfl j u hu; simpa using this), run_ldP (by kernel_rfl) c2⟩
theorem enLTo {T : Nat} {e : EnV} (h : St W w (row T 0 e.cells :: R)) :
    (loadG 9 (.pointer (some ⟨T, 0, none⟩))).run Tryz.prog w = .ok (.string e.key) w ∧ (loadG 9 (.pointer (some ⟨T, 1, none⟩))).run Tryz.prog w = .ok (.string e.val) w ∧ (loadG 4 (.pointer (some ⟨T, 2, none⟩))).run Tryz.prog w = .ok (.bool e.dead) w ∧
    (loadG 64 (.pointer (some ⟨T, 3, none⟩))).run Tryz.prog w = .ok (.agg [Value.int .i64 e.sc, .int .i64 e.ss].toArray) w ∧ (loadG 64 (.pointer (some ⟨T, 5, none⟩))).run Tryz.prog w = .ok (.agg [Value.int .i64 e.ac, .int .i64 e.az].toArray) w ∧
    (loadG 3 (.pointer (some ⟨T, 7, none⟩))).run Tryz.prog w = .ok (.int .i64 e.kp) w ∧ (loadG 3 (.pointer (some ⟨T, 8, none⟩))).run Tryz.prog w = .ok (.int .i64 e.age) w := by
  have f : ∀ i v, e.cells[i]? = some v → w.cell? ⟨T, i, none⟩ = some v := fun i v hv => by have := h.rowCell hv; rwa [Nat.zero_add] at this
  refine ⟨run_ldP (by kernel_rfl) (f 0 _ rfl), run_ldP (by kernel_rfl) (f 1 _ rfl), run_ldP (by kernel_rfl) (f 2 _ rfl), ?_, ?_, run_ldP (by kernel_rfl) (f 7 _ rfl), run_ldP (by kernel_rfl) (f 8 _ rfl)⟩
  · exact run_loadG (o := 0 + 3) agg_st (vs := [.int .i64 e.sc, .int .i64 e.ss]) rfl (St.rowPart h 3 (xs := [.int .i64 e.sc, .int .i64 e.ss]) (ys := [.int .i64 e.ac, .int .i64 e.az, .int .i64 e.kp, .int .i64 e.age]) rfl)
  · exact run_loadG (o := 0 + 5) agg_st (vs := [.int .i64 e.ac, .int .i64 e.az]) rfl (St.rowPart h 5 (xs := [.int .i64 e.ac, .int .i64 e.az]) (ys := [.int .i64 e.kp, .int .i64 e.age]) rfl)

end

end Go.Proofs.YtpjdcijphnkioaaGreatDoor
