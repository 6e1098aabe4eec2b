/- The statements' example: it holds. -/
import Derived.Test.YtnibgchgcggfbaaDiceC
namespace Go.Proofs.Ytnibgchgcggfbaa
open Go.RowKit Go.Qd

set_option maxHeartbeats 400000 in
theorem speaks_c {W w : World} {R : List HP} {post : Ending → World → Prop} (st : St W w R) (K : ∀ w', St W w' R → post (.returned (.bool true)) w') :
    Calls Try.prog 6 #[] w post := by
  have HK := hid K; clear K
  have s1 := st.alloc #[.int .i64 7, .int .i64 1] 3
  have r1 : RdS _ 1 _ 2 2 (ivs [7, 1]) := St.rowRd (sz := 1) s1 (n := 2) rfl (by decide) (ivs_one [7, 1])
  have e1 : drawV [7, 1] 4 = 3 := rfl
  have hE : drawL [7, 1] 4 = [1] := rfl
  have E2 := hid hE; clear hE
  go_enter Try.func6, Try.ntmps6
  go_wp2_with (first
    | (go_at_call 7; refine new_c s1 r1 (by omega) ?_; rintro b w2 s2)
    | (go_at_call 9; refine draw_c s2 (by omega) ?_; rintro w3 s3; rw [E2.out] at s3)
    | (go_at_call 11; have s4 := St.alloc s3 #[.int .i64 5, .int .i64 6, .int .i64 7] 3; have r4 : RdS _ 1 _ 3 3 (ivs [5, 6, 7]) := St.rowRd (sz := 1) s4 (n := 3) rfl (by decide) (ivs_one [5, 6, 7]); have s4' := St.pick 1 s4; refine some_c s4' r4 (by omega) ?_; rintro a5 n5 c5 w5 s5)
    | (go_at_call 17; have r5 := (OwnS.rd s5).alloc (.cells #[.int .i64 6, .int .i64 5] 3); have s6 := St.alloc s5 #[.int .i64 6, .int .i64 5] 3; have r6 : RdS _ 1 _ 2 2 (ivs [6, 5]) := St.rowRd (sz := 1) s6 (n := 2) rfl (by decide) (ivs_one [6, 5]); refine same_c r5 r6 ?_; rintro k; have s7 := St.drewN s6 k; have e7 : decide ((someF (2 : Int).toNat [1] [5, 6, 7]).2.1 = [6, 5]) = true := rfl; rw [e7]))
  exact HK.out _ (s7.dropN 5)

end Go.Proofs.Ytnibgchgcggfbaa
