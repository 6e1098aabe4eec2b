/- The document's Many. Printed by mkRGoodB.py. -/
import Derived.Test.YtbpdchaeakihkaaGreatRGoodB
import Derived.Test.YtbpdchaeakihkaaGreatWireI
namespace Go.Proofs.YtbpdchaeakihkaaGreat
open Go.RowKit Go.Qd
attribute [local go_sem ↓] execOp_ldAny execOp_neS
attribute [local go_sem] run_neS

section
variable {W w : World} {R : List HP} {post : Ending → World → Prop}

theorem many_ks {k : Nat} (h1 : 1 ≤ k) (h2 : k < 20) : k = 1 ∨ k = 2 ∨ k = 3 ∨ k = 4 ∨ k = 5 ∨ k = 6 ∨ k = 7 ∨ k = 8 ∨ k = 9 ∨ k = 10 ∨ k = 11 ∨ k = 12 ∨ k = 13 ∨ k = 14 ∨ k = 15 ∨ k = 16 ∨ k = 17 ∨ k = 18 ∨ k = 19 := by omega
set_option maxRecDepth 100000 in
set_option maxHeartbeats 8000000 in
theorem many7_c {k : Nat} (h1 : 1 ≤ k) (h2 : k < 20) (st : St W w R) (K : ∀ w', St W w' R → post (.returned (.tuple #[.int .i64 (loM k), .int .i64 (hiM k)])) w') : Calls Tryz.prog 107 #[.int .i64 k, .int .i64 7] w post := by
  rcases many_ks h1 h2 with rfl | rfl | rfl | rfl | rfl | rfl | rfl | rfl | rfl | rfl | rfl | rfl | rfl | rfl | rfl | rfl | rfl | rfl | rfl
  all_goals
    have HK := hid K; clear K
    go_enter Tryz.func107, Tryz.ntmps107
    go_wp2_with (go_at_call 108; refine rhas_c (f := 7) (by decide) st ?_; rintro w1 s1; first | rw [show hasB _ 7 = true from rfl] | rw [show hasB _ 7 = false from rfl])
    first
      | exact HK.out _ s1
      | (go_ret2; exact HK.out _ s1)
set_option maxRecDepth 100000 in
set_option maxHeartbeats 8000000 in
theorem many8_c {k : Nat} (h1 : 1 ≤ k) (h2 : k < 20) (st : St W w R) (K : ∀ w', St W w' R → post (.returned (.tuple #[.int .i64 (loE k), .int .i64 (hiE k)])) w') : Calls Tryz.prog 107 #[.int .i64 k, .int .i64 8] w post := by
  rcases many_ks h1 h2 with rfl | rfl | rfl | rfl | rfl | rfl | rfl | rfl | rfl | rfl | rfl | rfl | rfl | rfl | rfl | rfl | rfl | rfl | rfl
  all_goals
    have HK := hid K; clear K
    go_enter Tryz.func107, Tryz.ntmps107
    go_wp2_with (go_at_call 108; refine rhas_c (f := 8) (by decide) st ?_; rintro w1 s1; first | rw [show hasB _ 8 = true from rfl] | rw [show hasB _ 8 = false from rfl])
    first
      | exact HK.out _ s1
      | (go_ret2; exact HK.out _ s1)
end

end Go.Proofs.YtbpdchaeakihkaaGreat
