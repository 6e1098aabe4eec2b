/- wire: formOf. -/
import Derived.Test.YtbpdchaeakihkaaGreatWireA
namespace Go.Proofs.YtbpdchaeakihkaaGreat
open Go.RowKit Go.Qd

def noForm : List Value := [.string ByteArray.empty, .int .i64 0, .int .i64 0, .int .i64 0, .int .i64 0, .int .i64 0]
theorem formC_len {k : Nat} (h : k < 20) : (formC k).length = 6 := by
  have : ∀ k, k < 20 → (formC k).length = 6 := by decide
  exact this k h
theorem form_drop {k : Nat} (h : k < 20) : formL.flatten.drop (k * 6) = formC k ++ formL.flatten.drop (k * 6 + 6) := by
  match k, h with
  | 0, _ => exact rfl
  | 1, _ => exact rfl
  | 2, _ => exact rfl
  | 3, _ => exact rfl
  | 4, _ => exact rfl
  | 5, _ => exact rfl
  | 6, _ => exact rfl
  | 7, _ => exact rfl
  | 8, _ => exact rfl
  | 9, _ => exact rfl
  | 10, _ => exact rfl
  | 11, _ => exact rfl
  | 12, _ => exact rfl
  | 13, _ => exact rfl
  | 14, _ => exact rfl
  | 15, _ => exact rfl
  | 16, _ => exact rfl
  | 17, _ => exact rfl
  | 18, _ => exact rfl
  | 19, _ => exact rfl
  | n + 20, h => exact absurd h (by omega)
theorem noForm_one : ∀ u ∈ noForm, u.oneCell' = true := by intro u h; simp [noForm] at h; rcases h with h | h <;> subst h <;> rfl
theorem formC_one (k : Nat) : ∀ u ∈ formC k, u.oneCell' = true := by
  rcases Nat.lt_or_ge k 20 with h | h
  · have : ∀ k, k < 20 → ∀ u ∈ formC k, u.oneCell' = true := by decide
    exact this k h
  · have : formC k = [] := by unfold formC; rw [List.getD_eq_getElem?_getD, List.getElem?_eq_none (by exact h)]; rfl
    rw [this]; intro u hu; cases hu

section
variable {W w : World} {R : List HP} {post : Ending → World → Prop}

theorem execOp_load195 (ρ : Operand → Value) (dst : Option Tmp) (a : Operand) (ty : TypeId) (pos : String) (after : Array Edge) (guard : Option (Nat × Bool)) :
    execOp ρ { dst, op := .load 195 a, type := ty, pos, after, guard } = (do pure (.value (← loadG 195 (ρ a)))) := rfl
attribute [local go_sem ↓] execOp_load195

set_option maxRecDepth 100000 in
set_option maxHeartbeats 4000000 in
theorem formOf_yes {k : Nat} (st : St W w R) (h1 : 1 ≤ k) (h2 : k < 20) (K : ∀ w', St W w' R → post (.returned (.tuple #[.agg (formC k).toArray, .bool true])) w') : Calls Tryz.prog 140 #[.int .i64 k] w post := by
  have HK := hid K; clear K
  have HL := hid (formC_len h2)
  have HD := hid (form_drop h2)
  have k1 : (1 : Int) ≤ k := by omega
  have k2 : (k : Int) < 20 := by omega
  go_enter Tryz.func140, Tryz.ntmps140
  go_wp2_with (first
    | (refine wpl_allocA rfl rfl zero195 st ?_; rintro E w1 s1)
    | (go_at_call 169; refine forms_c s1 ?_; rintro B w2 s2; have lg := run_loadG (o := 0 + k * 6) agg195 HL.out (St.rowPart s2 (k * 6) HD.out); rw [Nat.zero_add] at lg)
    | (refine wpl_storeA (vs := formC k) rfl (.tmp 2) (.tmp 18) (by rfl) agg195 (by rfl) (by rfl) HL.out (formC_one k) (St.pick 1 s2) (by simp) ?_; rintro w3 s3))
  have hL := run_loadA agg195 HL.out s3.rowAll
  exact bodyPost_ret (v := .tuple #[.agg (formC k).toArray, .bool true]) (by simp [results, Tryz.results140, asAddr, hL]) rfl (HK.out _ (s3.dropN 2))

set_option maxRecDepth 100000 in
set_option maxHeartbeats 4000000 in
theorem formOf_no {k : Int} (st : St W w R) (h : ¬ (1 ≤ k ∧ k < 20)) (K : ∀ w', St W w' R → post (.returned (.tuple #[.agg noForm.toArray, .bool false])) w') : Calls Tryz.prog 140 #[.int .i64 k] w post := by
  have HK := hid K; clear K
  by_cases h1 : 1 ≤ k
  · have k1 : decide (k < 1) = false := by simp; omega
    have k2 : decide (20 ≤ k) = true := by simp; omega
    clear h h1
    go_enter Tryz.func140, Tryz.ntmps140
    go_wp2_with (first
      | (refine wpl_allocA rfl rfl zero195 st ?_; rintro E w1 s1)
      | (go_at_call 169; refine forms_c s1 ?_; rintro B w2 s2)
      | (refine wpl_build (v := .agg noForm.toArray) rfl (rfl : _ = Op.build 195 _) (by kernel_rfl) ?_)
      | (refine wpl_storeA (vs := noForm) rfl (.tmp 2) (.tmp 14) (by rfl) agg195 (by rfl) (by rfl) rfl noForm_one (St.pick 1 s2) (by simp) ?_; rintro w3 s3))
    have hL := run_loadA agg195 (vs := noForm) rfl s3.rowAll
    exact bodyPost_ret (v := .tuple #[.agg noForm.toArray, .bool false]) (by simp [results, Tryz.results140, asAddr, hL]) rfl (HK.out _ (s3.dropN 2))
  · have k1 : decide (k < 1) = true := by simp; omega
    clear h h1
    go_enter Tryz.func140, Tryz.ntmps140
    go_wp2_with (first
      | (refine wpl_allocA rfl rfl zero195 st ?_; rintro E w1 s1)
      | (go_at_call 169; refine forms_c s1 ?_; rintro B w2 s2)
      | (refine wpl_build (v := .agg noForm.toArray) rfl (rfl : _ = Op.build 195 _) (by kernel_rfl) ?_)
      | (refine wpl_storeA (vs := noForm) rfl (.tmp 2) (.tmp 14) (by rfl) agg195 (by rfl) (by rfl) rfl noForm_one (St.pick 1 s2) (by simp) ?_; rintro w3 s3))
    have hL := run_loadA agg195 (vs := noForm) rfl s3.rowAll
    exact bodyPost_ret (v := .tuple #[.agg noForm.toArray, .bool false]) (by simp [results, Tryz.results140, asAddr, hL]) rfl (HK.out _ (s3.dropN 2))

end

end Go.Proofs.YtbpdchaeakihkaaGreat
