/- views: the statements' example holds. -/
import Derived.Test.YtnibgchgcggfbacViewsE
namespace Go.Proofs.Ytnibgchgcggfbac
open Go.RowKit Go.Qd

def V0 : VV := ⟨0, [], 1, [], 2⟩
def V1 : VV := ⟨0, [1], 1, [], 2⟩
def V2 : VV := ⟨0, [2], 1, [1], 2⟩
theorem V0ok : VOK V0 := VOK.start (by decide)
theorem V1e : raiseV V0 [] 1 = V1 := by kernel_rfl
theorem V1d : raiseD V0 [] 1 = [] := by decide +kernel
theorem V1ok : VOK V1 := by have := V0ok.raise [] 1; rwa [V1e] at this
theorem V2e : raiseV V1 [] 2 = V2 := by kernel_rfl
theorem V2d : raiseD V1 [] 2 = [] := by decide +kernel

set_option maxHeartbeats 400000 in
theorem speaks_c {W w : World} {R : List HP} {post : Ending → World → Prop} (st : St W w R) (K : ∀ w', St W w' R → post (.returned (.bool true)) w') :
    Calls Try.prog 6 #[] w post := by
  have HK := hid K; clear K
  go_enter Try.func6, Try.ntmps6
  go_wp2_with (first
    | (go_at_call 7; refine views_new_c st (by decide) ?_; rintro b w1 s1)
    | (go_at_call 8; refine new_c (zs := []) s1 (RdS.none0 _ _) (by omega) ?_; rintro d w2 s2; have s3 : St W w2 (ViewsA b V0 :: DiceA d [] :: R) := St.pick 1 s2)
    | (go_at_call 12; refine raise_yes s3 V0ok (by decide) ?_; rintro w4 s4; rw [V1e, V1d] at s4; rw [show raiseG V0 [] = -1 from rfl])
    | (go_at_call 12; refine raise_yes s4 V1ok (by decide) ?_; rintro w5 s5; rw [V2e, V2d] at s5; rw [show raiseG V1 [] = 1 from rfl])
    | (go_at_call 9; refine isActive_c s5 ?_; rw [show memB V2.a 2 = true from rfl])
    | (go_at_call 13; refine isPassive_c s5 ?_; rw [show memB V2.p 1 = true from rfl]))
  exact HK.out _ (s5.dropN 2)

end Go.Proofs.Ytnibgchgcggfbac
