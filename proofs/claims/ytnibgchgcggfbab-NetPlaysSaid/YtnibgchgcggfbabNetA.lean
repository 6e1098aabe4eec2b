/- net: the rows of its slice types; slices.Clone of bytes, slices.Delete of a parcel. -/
import Derived.Test.YtnibgchgcggfbabRows
import Derived.Test.YtnibgchgcggfbabSlice
import Derived.WalkKit
import Derived.WalkSpells
import Derived.WalkLawsBesides
import Derived.BigQuiet
import Derived.Deep.QuietTactic
import Derived.StillTailTactics
import Derived.Deep.RegionHeld3
namespace Go.Proofs.Ytnibgchgcggfbab
open Go.RowKit Go.Qd

theorem Try.elem28 : ElemT Try.prog 28 5 1 1 := ElemT.mk' Try.underlying28 (by kernel_rfl : (Try.prog.info? 5).map (fun i => (i.zero, i.size, i.bytes)) = some (some (.int .u8 0), 1, 1)) rfl (by decide) (by simp [Value.cells, Value.oneCell'])

theorem Try.elem61 : ElemT Try.prog 61 76 4 48 := ElemT.mk' Try.underlying61 (by kernel_rfl : (Try.prog.info? 76).map (fun i => (i.zero, i.size, i.bytes)) = some (some (.agg #[.int .i64 0, .int .i64 0, .slice none 0 0, .bool false]), 4, 48)) rfl (by decide) (by simp [Value.cells, Value.oneCell'])

/-- slices.Clone. -/
theorem cloneB_c {W w : World} {R : List HP} {post : Ending → World → Prop} {ao : Option Addr} {n c : Nat} {cs : List Value} (st : St W w R) (rd : RdS w 1 ao n c cs) (hb : n * 1 ≤ 140737488355328)
    (K : ∀ ao' c' w', St W w' (OwnS 1 ao' n c' cs :: R) → post (.returned (.slice ao' n c')) w') : Calls Try.prog 26 #[.slice ao n c] w post := by
  have hcmp : ∀ w ao n c, (binOp .eql 28 (.slice ao n c) (.slice none 0 0)).run Try.prog w = .ok (.bool ao.isNone) w := fun w ao n c => Lib.run_eql_slice_nil w 28 5 ao n c 0 0 Try.underlying28
  have HK := hid K; clear K
  cases ao with
  | none =>
    have hc := rd.nil rfl
    have hn : n = 0 := by have := rd.le; omega
    subst hc; subst hn
    have hz : cs = [] := List.eq_nil_of_length_eq_zero (by have := rd.len; simpa using this)
    subst hz
    go_enter Try.func26, Try.ntmps26
    go_wp2
    exact HK.out none 0 w (OwnS.none0 st)
  | some a =>
    go_enter Try.func26, Try.ntmps26
    have s1 : St W (w.alloc (.cells #[] 5)) (OwnS 1 (some ⟨w.heap.size, 0, none⟩) 0 0 [] :: R) := OwnS.empty (st.alloc #[] 5).drop _
    have r1 := rd.alloc (.cells #[] 5)
    have hm : n ≤ maxLen := by unfold maxLen; omega
    go_wp2_with (at_builtin; refine wpl_append rfl _ _ rfl Try.elem28 rfl rfl s1 r1 (by omega) (by omega) ?_; rintro ao' c' w' s2; rw [Nat.zero_add, List.nil_append] at s2; rw [Nat.zero_add])
    exact HK.out _ _ _ s2

/-- slices.Delete of one element of an owned slice. -/
theorem deleteP_c {W w : World} {R : List HP} {post : Ending → World → Prop} {ao : Option Addr} {n c : Nat} {cs : List Value} {i : Nat} (st : St W w (OwnS 4 ao n c cs :: R)) (hi : i < n) (hb : n * 48 ≤ 140737488355328)
    (K : ∀ ao' c' w', St W w' (OwnS 4 ao' (n - 1) c' (cs.take (i * 4) ++ cs.drop ((i + 1) * 4)) :: R) → post (.returned (.slice ao' (n - 1) c')) w') :
    Calls Try.prog 28 #[.slice ao n c, .int .i64 i, .int .i64 (i + 1)] w post := by
  have HK := hid K; clear K
  have hrd := OwnS.rd st
  have hle := hrd.le
  have hmax := hrd.max
  have hmax' := hmax
  unfold maxLen at hmax'
  have hne : ((i : Int) == (i : Int) + 1) = false := by simp; omega
  have e1 := run_slice_to Try.elem61 ao n c i (by omega)
  obtain ⟨ax, cx, ht, e2⟩ := run_slice_from Try.elem61 ao n c (i + 1) (n - 1 - i) (i := (i : Int) + 1) (by omega) (by omega)
  have hm1 : i + (n - 1 - i) ≤ maxLen := by unfold maxLen; omega
  go_enter Try.func28, Try.ntmps28
  go_wp2
  go_still_tail 6, (by kernel_rfl)
  have s1 : St W w.drew (OwnS 4 ao i c (cs.take (i * 4)) :: R) := (OwnS.short st (by omega)).drew
  have r1 : RdS w.drew 4 ax (n - 1 - i) cx (cs.drop ((i + 1) * 4)) := (RdS.tail hrd (by omega) ht).same (fun _ => rfl)
  clear e1 e2
  change wpList _ _ _ _ _ w.drew
  generalize w.drew = w2 at s1 r1 ⊢
  have hn : i + (n - 1 - i) = n - 1 := by omega
  have hb2 : (i + (n - 1 - i)) * 48 ≤ 140737488355328 := by omega
  have hr2 : i + (n - 1 - i) ≤ c := by omega
  have HN := hid hn; clear hn
  go_wp2_with (first
    | (at_builtin; refine wpl_append_room rfl _ _ rfl Try.elem61 rfl rfl s1 r1 hb2 hm1 hr2 ?_; rintro w3 s3; rw [HN.out] at s3; rw [HN.out])
    | (refine wpl_mid rfl _ _ _ rfl Try.elem61 (n - 1) n (n' := 1) rfl rfl rfl (by omega) (by omega) ?_; rintro ay cy ht2)
    | (refine wpl_clear rfl _ rfl Try.elem61 rfl s3 (by omega) ht2 ?_; rintro w4 s4))
  exact HK.out _ _ _ s4

end Go.Proofs.Ytnibgchgcggfbab
