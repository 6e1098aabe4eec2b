/- The document's Good of stamps and marks, Later, Check of entries; Many. Printed by mkRGoodB.py. -/
import Derived.Test.YtbpdchaeakihkaaGreatRGoodA
namespace Go.Proofs.YtbpdchaeakihkaaGreat
open Go.RowKit Go.Qd
attribute [local go_sem ↓] execOp_ldAny

def lenB (b : ByteArray) : Bool := decide (0 < b.size)
/-- What the document's Check tells. -/
def rcheckE (e : EnV) : Int :=
  if (decide ((e.key.size : Int) < 1) || decide (16 < (e.key.size : Int))) = true then 9
  else if (decide (32 < (e.val.size : Int)) || (e.dead && lenB e.val)) = true then 10
  else if (!stampB e.sc e.ss || (!stampB e.ac e.az || laterB e.sc e.ss e.ac e.az)) = true then 1
  else if (!e.dead && !plainB e) = true then 1
  else if (e.dead && !keptB e) = true then 1
  else 0

def eq2B (a b c d : Int) : Bool := decide (a = c) && decide (b = d)
theorem plain_eq2 (e : EnV) : plainB e = (eq2B e.ac e.az e.sc e.ss && ((e.kp == 0) && (e.age == 0))) := by unfold plainB eq2B; rw [Bool.and_assoc]
def neSG (x y : Operand) (a b : Value) : Sem Value := do eqGuard .neq 69 x y a b; Go.binOp .neq 69 a b
theorem execOp_neS (ρ : Operand → Value) (dst : Option Tmp) (x y : Operand) (r : TypeId) (ty : TypeId) (pos : String) (after : Array Edge) (guard : Option (Nat × Bool)) :
    execOp ρ { dst, op := .binOp .neq 69 x y r, type := ty, pos, after, guard } = (do pure (.value (← neSG x y (ρ x) (ρ y)))) := by simp [execOp, neSG]
theorem run_neS (x y : Operand) (a b c d : Int) (w : World) : (neSG x y (.agg #[.int .i64 a, .int .i64 b]) (.agg #[.int .i64 c, .int .i64 d])).run Tryz.prog w = .ok (.bool (!eq2B a b c d)) w := by
  unfold neSG eq2B
  go_simp
  by_cases h1 : a = c
  · by_cases h2 : b = d
    · simp [h1, h2]
    · simp [h1, h2]
  · simp [h1]
attribute [local go_sem ↓] execOp_neS
attribute [local go_sem] run_neS

section
variable {W w : World} {R : List HP} {post : Ending → World → Prop}

set_option maxRecDepth 100000 in
set_option maxHeartbeats 4000000 in
theorem rstGood_c {c s : Int} (st : St W w R) (K : ∀ w', St W w' R → post (.returned (.bool (stampB c s))) w') : Calls Tryz.prog 109 #[.agg [Value.int .i64 c, .int .i64 s].toArray] w post := by
  have HK := K; clear K
  have hsb : stampB c s = (decide (1 ≤ c) && (decide (c ≤ 4294967295) && siteB s)) := rfl
  rw [hsb] at HK
  clear hsb
  obtain ⟨b0, e0⟩ : ∃ b, decide (1 ≤ c) = b := ⟨_, rfl⟩
  obtain ⟨b1, e1⟩ : ∃ b, decide (c ≤ 4294967295) = b := ⟨_, rfl⟩
  obtain ⟨b2, e2⟩ : ∃ b, siteB s = b := ⟨_, rfl⟩
  rw [e0, e1, e2] at HK
  cases b0 with
  | false =>
    simp only [Bool.false_and] at HK
    have HK2 := hid HK; clear HK
    go_enter Tryz.func109, Tryz.ntmps109
    go_wp2_with (first
      | (refine wpl_boxA (vs := [Value.int .i64 c, .int .i64 s]) rfl (.tmp 0) rfl rfl st ?_; rintro T w1 s1; obtain ⟨c0, c1⟩ := stL s1)
      | (go_at_call 64; refine rsite_c ?_; rw [e2])
      | fail)
    exact HK2.out _ (St.drop s1)
  | true =>
    cases b1 with
    | false =>
      simp only [Bool.true_and, Bool.false_and] at HK
      have HK2 := hid HK; clear HK
      go_enter Tryz.func109, Tryz.ntmps109
      go_wp2_with (first
        | (refine wpl_boxA (vs := [Value.int .i64 c, .int .i64 s]) rfl (.tmp 0) rfl rfl st ?_; rintro T w1 s1; obtain ⟨c0, c1⟩ := stL s1)
        | (go_at_call 64; refine rsite_c ?_; rw [e2])
        | fail)
      exact HK2.out _ (St.drop s1)
    | true =>
      cases b2 with
      | false =>
        simp only [Bool.true_and] at HK
        have HK2 := hid HK; clear HK
        go_enter Tryz.func109, Tryz.ntmps109
        go_wp2_with (first
          | (refine wpl_boxA (vs := [Value.int .i64 c, .int .i64 s]) rfl (.tmp 0) rfl rfl st ?_; rintro T w1 s1; obtain ⟨c0, c1⟩ := stL s1)
          | (go_at_call 64; refine rsite_c ?_; rw [e2])
          | fail)
        exact HK2.out _ (St.drop s1)
      | true =>
        simp only [Bool.true_and] at HK
        have HK2 := hid HK; clear HK
        go_enter Tryz.func109, Tryz.ntmps109
        go_wp2_with (first
          | (refine wpl_boxA (vs := [Value.int .i64 c, .int .i64 s]) rfl (.tmp 0) rfl rfl st ?_; rintro T w1 s1; obtain ⟨c0, c1⟩ := stL s1)
          | (go_at_call 64; refine rsite_c ?_; rw [e2])
          | fail)
        exact HK2.out _ (St.drop s1)

set_option maxRecDepth 100000 in
set_option maxHeartbeats 4000000 in
theorem rmkGood_c {m : MkV} (st : St W w R) (K : ∀ w', St W w' R → post (.returned (.bool (markB m))) w') : Calls Tryz.prog 65 #[.agg m.cells.toArray] w post := by
  have HK := K; clear K
  unfold markB at HK
  obtain ⟨b0, e0⟩ : ∃ b, stampB m.c m.s = b := ⟨_, rfl⟩
  obtain ⟨b1, e1⟩ : ∃ b, decide (1 ≤ (m.key.size : Int)) = b := ⟨_, rfl⟩
  obtain ⟨b2, e2⟩ : ∃ b, decide ((m.key.size : Int) ≤ 16) = b := ⟨_, rfl⟩
  rw [e0, e1, e2] at HK
  cases b0 with
  | false =>
    simp only [Bool.false_and] at HK
    have HK2 := hid HK; clear HK
    go_enter Tryz.func65, Tryz.ntmps65
    go_wp2_with (first
      | (refine wpl_boxA (vs := m.cells) rfl (.tmp 0) rfl rfl st ?_; rintro T w0 s0; obtain ⟨c0, c1⟩ := mkLOf s0)
      | (go_at_call 109; refine rstGood_c s0 ?_; rintro w1 s1; rw [e0]; obtain ⟨c2, c3⟩ := mkLOf s1)
      | fail)
    exact HK2.out _ (St.drop s1)
  | true =>
    cases b1 with
    | false =>
      simp only [Bool.true_and, Bool.false_and] at HK
      have HK2 := hid HK; clear HK
      go_enter Tryz.func65, Tryz.ntmps65
      go_wp2_with (first
        | (refine wpl_boxA (vs := m.cells) rfl (.tmp 0) rfl rfl st ?_; rintro T w0 s0; obtain ⟨c0, c1⟩ := mkLOf s0)
        | (go_at_call 109; refine rstGood_c s0 ?_; rintro w1 s1; rw [e0]; obtain ⟨c2, c3⟩ := mkLOf s1)
        | fail)
      exact HK2.out _ (St.drop s1)
    | true =>
      cases b2 with
      | false =>
        simp only [Bool.true_and] at HK
        have HK2 := hid HK; clear HK
        go_enter Tryz.func65, Tryz.ntmps65
        go_wp2_with (first
          | (refine wpl_boxA (vs := m.cells) rfl (.tmp 0) rfl rfl st ?_; rintro T w0 s0; obtain ⟨c0, c1⟩ := mkLOf s0)
          | (go_at_call 109; refine rstGood_c s0 ?_; rintro w1 s1; rw [e0]; obtain ⟨c2, c3⟩ := mkLOf s1)
          | fail)
        exact HK2.out _ (St.drop s1)
      | true =>
        simp only [Bool.true_and] at HK
        have HK2 := hid HK; clear HK
        go_enter Tryz.func65, Tryz.ntmps65
        go_wp2_with (first
          | (refine wpl_boxA (vs := m.cells) rfl (.tmp 0) rfl rfl st ?_; rintro T w0 s0; obtain ⟨c0, c1⟩ := mkLOf s0)
          | (go_at_call 109; refine rstGood_c s0 ?_; rintro w1 s1; rw [e0]; obtain ⟨c2, c3⟩ := mkLOf s1)
          | fail)
        exact HK2.out _ (St.drop s1)

set_option maxRecDepth 100000 in
set_option maxHeartbeats 1000000 in
theorem rlater_c {c s d t : Int} (st : St W w R) (K : ∀ w', St W w' R → post (.returned (.bool (laterB c s d t))) w') :
    Calls Tryz.prog 110 #[.agg [Value.int .i64 c, .int .i64 s].toArray, .agg [Value.int .i64 d, .int .i64 t].toArray] w post := by
  unfold laterB at K
  obtain ⟨z, hz⟩ : ∃ z, (c != d) = z := ⟨_, rfl⟩
  rw [hz] at K
  cases z with
  | true =>
    replace K : ∀ w', St W w' R → post (.returned (.bool (decide (d < c)))) w' := K
    have HK := hid K; clear K
    go_enter Tryz.func110, Tryz.ntmps110
    go_wp2_with (first
      | (refine wpl_boxA (vs := [Value.int .i64 c, .int .i64 s]) rfl (.tmp 0) rfl rfl st ?_; rintro T w1 s1)
      | (refine wpl_boxA (vs := [Value.int .i64 d, .int .i64 t]) rfl (.tmp 1) rfl rfl s1 ?_; rintro U w2 s2; obtain ⟨c0, c1⟩ := stL s2; obtain ⟨d0, d1⟩ := stL (St.pick 1 s2)))
    exact HK.out _ (s2.dropN 2)
  | false =>
    replace K : ∀ w', St W w' R → post (.returned (.bool (decide (t < s)))) w' := K
    have HK := hid K; clear K
    go_enter Tryz.func110, Tryz.ntmps110
    go_wp2_with (first
      | (refine wpl_boxA (vs := [Value.int .i64 c, .int .i64 s]) rfl (.tmp 0) rfl rfl st ?_; rintro T w1 s1)
      | (refine wpl_boxA (vs := [Value.int .i64 d, .int .i64 t]) rfl (.tmp 1) rfl rfl s1 ?_; rintro U w2 s2; obtain ⟨c0, c1⟩ := stL s2; obtain ⟨d0, d1⟩ := stL (St.pick 1 s2)))
    exact HK.out _ (s2.dropN 2)

end

end Go.Proofs.YtbpdchaeakihkaaGreat
