/- net: the statements' example holds. -/
import Derived.Test.YtnibgchgcggfbabNetE
namespace Go.Proofs.Ytnibgchgcggfbab
open Go.RowKit Go.Qd

set_option maxHeartbeats 400000 in
theorem speaks_c {W w : World} {R : List HP} {post : Ending → World → Prop} (st : St W w R) (K : ∀ w', St W w' R → post (.returned (.bool true)) w') :
    Calls Try.prog 6 #[] w post := by
  have HK := hid K; clear K
  go_enter Try.func6, Try.ntmps6
  go_wp2_with (first
    | (go_at_call 7; refine net_new_c st (by omega) ?_; rintro b w1 s1)
    | (go_at_call 8; have s2 := s1.alloc #[.int .u8 7] 5; have r2 : Rds W (row w1.heap.size 0 [.int .u8 7] :: R) 1 (some ⟨w1.heap.size, 0, none⟩) 1 1 (bvs [7]) := fun w s => St.rowRd (sz := 1) (vs := bvs [7]) s rfl (by decide) (bvs_one _); refine send_c (St.pick 1 s2) r2 (by omega) (by decide) (by decide) ?_; rintro w3 a3 c3 s3 _; have s3' : St W w3 (NetA b ⟨2, 1, [⟨0, 1, a3, 1, c3, [7], false⟩], [], 0⟩ :: _) := s3 rfl; clear s3; have e3 : (linkB 2 0 1 && decide (((⟨2, 1, [], [], 0⟩ : NetV).ps.length : Int) < (⟨2, 1, [], [], 0⟩ : NetV).room)) = true := rfl; rw [e3])
    | (go_at_call 8; refine send_c (bs := []) s3' ((RdS.none0 _ _).rds _) (by omega) (by show (1 : Int) ≤ 4096; omega) (by show (0 : Int) ≤ 0 ∧ (0 : Int) ≤ 4611686018427387904; omega) ?_; rintro w4 a4 c4 s4 _; have e4 : (linkB (⟨2, 1, [⟨0, 1, a3, 1, c3, [7], false⟩], [], 0⟩ : NetV).nodes 1 0 && decide (((⟨2, 1, [⟨0, 1, a3, 1, c3, [7], false⟩], [], 0⟩ : NetV).ps.length : Int) < (⟨2, 1, [⟨0, 1, a3, 1, c3, [7], false⟩], [], 0⟩ : NetV).room)) = false := rfl; rw [e4]; have s4' : St W w4 (NetA b ⟨2, 1, [⟨0, 1, a3, 1, c3, [7], false⟩], [], 1⟩ :: _) := s4 rfl; clear s4)
    | (go_at_call 13; refine dropped_c s4' ?_)
    | (go_at_call 12; refine len_c s4' ?_))
  exact HK.out _ (s4'.dropN 2)

end Go.Proofs.Ytnibgchgcggfbab
