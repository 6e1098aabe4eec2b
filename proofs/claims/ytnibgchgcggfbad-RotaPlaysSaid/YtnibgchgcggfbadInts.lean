/- []int: its row of the table; slices.Clone. -/
import Derived.Test.YtnibgchgcggfbadRows
import Derived.Test.YtnibgchgcggfbadSlice
import Derived.Test.YtnibgchgcggfbadProg
import Derived.WalkKit
import Derived.WalkSpells
import Derived.WalkLawsBesides
import Derived.BigQuiet
import Derived.Deep.QuietTactic
namespace Go.Proofs.Ytnibgchgcggfbad
open Go.RowKit Go.Qd

theorem Try.elem28 : ElemT Try.prog 28 3 1 8 := ElemT.mk' Try.underlying28 (by kernel_rfl : (Try.prog.info? 3).map (fun i => (i.zero, i.size, i.bytes)) = some (some (.int .i64 0), 1, 8)) rfl (by decide) (by simp [Value.cells, Value.oneCell'])

/-- slices.Clone. -/
theorem clone_c {W w : World} {R : List HP} {post : Ending → World → Prop} {ao : Option Addr} {n c : Nat} {cs : List Value} (st : St W w R) (rd : RdS w 1 ao n c cs) (hb : n * 8 ≤ 140737488355328)
    (K : ∀ ao' c' w', St W w' (OwnS 1 ao' n c' cs :: R) → post (.returned (.slice ao' n c')) w') : Calls Try.prog 19 #[.slice ao n c] w post := by
  have hcmp : ∀ w ao n c, (binOp .eql 28 (.slice ao n c) (.slice none 0 0)).run Try.prog w = .ok (.bool ao.isNone) w := fun w ao n c => Lib.run_eql_slice_nil w 28 3 ao n c 0 0 Try.underlying28
  have HK := hid K; clear K
  cases ao with
  | none =>
    have hc := rd.nil rfl
    have hn : n = 0 := by have := rd.le; omega
    subst hc; subst hn
    have hz : cs = [] := List.eq_nil_of_length_eq_zero (by have := rd.len; simpa using this)
    subst hz
    go_enter Try.func19, Try.ntmps19
    go_wp2
    exact HK.out none 0 w (OwnS.none0 st)
  | some a =>
    go_enter Try.func19, Try.ntmps19
    have s1 : St W (w.alloc (.cells #[] 3)) (OwnS 1 (some ⟨w.heap.size, 0, none⟩) 0 0 [] :: R) := OwnS.empty (st.alloc #[] 3).drop _
    have r1 := rd.alloc (.cells #[] 3)
    have hm : n ≤ maxLen := by unfold maxLen; omega
    go_wp2_with (at_builtin; refine wpl_append rfl _ _ rfl Try.elem28 rfl rfl s1 r1 (by omega) (by omega) ?_; rintro ao' c' w' s2; rw [Nat.zero_add, List.nil_append] at s2; rw [Nat.zero_add])
    exact HK.out _ _ _ s2


end Go.Proofs.Ytnibgchgcggfbad
