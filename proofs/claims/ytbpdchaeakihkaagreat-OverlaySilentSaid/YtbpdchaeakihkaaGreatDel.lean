/- The dice: what New, Feed, Left, Draw and slices.Clone do, as contracts in the logic of ownership. -/

import Derived.Test.YtbpdchaeakihkaaGreatDiceA
import Derived.StillTailTactics
import Derived.WalkKit
import Derived.WalkSpells
import Derived.WalkLawsBesides
import Derived.BigQuiet
import Derived.Deep.QuietTactic
namespace Go.Proofs.YtbpdchaeakihkaaGreat
open Go.RowKit Go.Qd


set_option maxRecDepth 100000 in
theorem deleteI_c {W w : World} {R : List HP} {post : Ending → World → Prop} {ao : Option Addr} {n c : Nat} {cs : List Value} {i : Nat} (st : St W w (OwnS 1 ao n c cs :: R)) (hi : i < n) (hb : n * 8 ≤ 140737488355328)
    (K : ∀ ao' c' w', St W w' (OwnS 1 ao' (n - 1) c' (cs.take (i * 1) ++ cs.drop ((i + 1) * 1)) :: R) → post (.returned (.slice ao' (n - 1) c')) w') :
    Calls Tryz.prog 139 #[.slice ao n c, .int .i64 i, .int .i64 (i + 1)] w post := by
  have HK := hid K; clear K
  have hrd := OwnS.rd st
  have hle := hrd.le
  have hmax := hrd.max
  have hmax' := hmax
  unfold maxLen at hmax'
  have hne : ((i : Int) == (i : Int) + 1) = false := by simp; omega
  have e1 := run_slice_to Tryz.elem24 ao n c i (by omega)
  obtain ⟨ax, cx, ht, e2⟩ := run_slice_from Tryz.elem24 ao n c (i + 1) (n - 1 - i) (i := (i : Int) + 1) (by omega) (by omega)
  have hm1 : i + (n - 1 - i) ≤ maxLen := by unfold maxLen; omega
  go_enter Tryz.func139, Tryz.ntmps139
  go_wp2
  go_still_tail 6, (by kernel_rfl)
  have s1 : St W w.drew (OwnS 1 ao i c (cs.take (i * 1)) :: R) := (OwnS.short st (by omega)).drew
  have r1 : RdS w.drew 1 ax (n - 1 - i) cx (cs.drop ((i + 1) * 1)) := (RdS.tail hrd (by omega) ht).same (fun _ => rfl)
  clear e1 e2
  change wpList _ _ _ _ _ w.drew
  generalize w.drew = w2 at s1 r1 ⊢
  have hn : i + (n - 1 - i) = n - 1 := by omega
  have hb2 : (i + (n - 1 - i)) * 8 ≤ 140737488355328 := by omega
  have hr2 : i + (n - 1 - i) ≤ c := by omega
  have HN := hid hn; clear hn
  go_wp2_with (first
    | (at_builtin; refine wpl_append_room rfl _ _ rfl Tryz.elem24 rfl rfl s1 r1 hb2 hm1 hr2 ?_; rintro w3 s3; rw [HN.out] at s3; rw [HN.out])
    | (refine wpl_mid rfl _ _ _ rfl Tryz.elem24 (n - 1) n (n' := 1) rfl rfl rfl (by omega) (by omega) ?_; rintro ay cy ht2)
    | (refine wpl_clear rfl _ rfl Tryz.elem24 rfl s3 (by omega) ht2 ?_; rintro w4 s4))
  exact HK.out _ _ _ s4

end Go.Proofs.YtbpdchaeakihkaaGreat
