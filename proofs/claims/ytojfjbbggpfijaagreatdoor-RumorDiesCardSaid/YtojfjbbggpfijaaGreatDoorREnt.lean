/- The document's Site, Good of stamps, Later, Check of entries. Printed by mkREnt.py. -/
import Derived.Test.YtojfjbbggpfijaaGreatDoorMarks
import Derived.Deep.DeepCutAuto
namespace Go.Proofs.YtojfjbbggpfijaaGreatDoor
open Go.RowKit Go.Qd

/-- A bool that the walk shall not look into. -/
def siteE (n : Int) : Bool := decide (0 ≤ n) && decide (n < 12)
def ltrB (c s d t : Int) : Bool := if (c != d) = true then decide (d < c) else decide (t < s)
theorem ltrB_eq (c s d t : Int) : ltrB c s d t = decide (cmpS d t c s < 0) := by
  unfold ltrB cmpS orI cmpI
  by_cases h : c = d
  · subst h
    have e : (c != c) = false := by simp
    rw [e]
    simp only [Int.lt_irrefl, if_false, ne_eq, not_true_eq_false, Bool.false_eq_true]
    by_cases h2 : t < s
    · rw [if_pos h2]; simp [h2]
    · rw [if_neg h2]
      by_cases h3 : s < t
      · rw [if_pos h3]; simp [h2]
      · rw [if_neg h3]; simp [h2]
  · have e : (c != d) = true := by simp [h]
    rw [e]
    simp only [if_true]
    by_cases h2 : d < c
    · rw [if_pos h2]; simp [h2]
    · rw [if_neg h2, if_pos (by omega : c < d)]; simp [h2]
section
variable {W w : World} {R : List HP} {post : Ending → World → Prop}

theorem rsiteE_c {n : Int} (K : post (.returned (.bool (siteE n))) w) : Calls Tryz.prog 62 #[.int .i64 n] w post := by
  have HK := K; clear K
  unfold siteE at HK
  obtain ⟨b0, e0⟩ : ∃ b, decide (0 ≤ n) = b := ⟨_, rfl⟩
  obtain ⟨b1, e1⟩ : ∃ b, decide (n < 12) = b := ⟨_, rfl⟩
  rw [e0, e1] at HK
  cases b0 with
  | false =>
    simp only [Bool.false_and] at HK
    have HK2 := hid HK; clear HK
    go_enter Tryz.func62, Tryz.ntmps62
    go_wp2
    exact HK2.out
  | true =>
    cases b1 with
    | false =>
      simp only [Bool.true_and] at HK
      have HK2 := hid HK; clear HK
      go_enter Tryz.func62, Tryz.ntmps62
      go_wp2
      exact HK2.out
    | true =>
      simp only [Bool.true_and] at HK
      have HK2 := hid HK; clear HK
      go_enter Tryz.func62, Tryz.ntmps62
      go_wp2
      exact HK2.out

end

attribute [local go_sem ↓] execOp_ldAny

def lenB (b : ByteArray) : Bool := decide (0 < b.size)
/-- What the document's Check tells. -/
def rcheckE (e : EnV) : Int :=
  if (decide ((e.key.size : Int) < 1) || decide (16 < (e.key.size : Int))) = true then 9
  else if (decide (32 < (e.val.size : Int)) || (e.dead && lenB e.val)) = true then 10
  else if (!stampB e.sc e.ss || (!stampB e.ac e.az || ltrB e.sc e.ss e.ac e.az)) = true then 1
  else if (!e.dead && !plainB e) = true then 1
  else if (e.dead && !keptB e) = true then 1
  else 0

def eq2B (a b c d : Int) : Bool := decide (a = c) && decide (b = d)
theorem plain_eq2 (e : EnV) : plainB e = (eq2B e.ac e.az e.sc e.ss && ((e.kp == 0) && (e.age == 0))) := by unfold plainB eq2B; rw [Bool.and_assoc]
def neSG (x y : Operand) (a b : Value) : Sem Value := do eqGuard .neq 41 x y a b; Go.binOp .neq 41 a b
theorem execOp_neS (ρ : Operand → Value) (dst : Option Tmp) (x y : Operand) (r : TypeId) (ty : TypeId) (pos : String) (after : Array Edge) (guard : Option (Nat × Bool)) :
    execOp ρ { dst, op := .binOp .neq 41 x y r, type := ty, pos, after, guard } = (do pure (.value (← neSG x y (ρ x) (ρ y)))) := by simp [execOp, neSG]
theorem run_neS (x y : Operand) (a b c d : Int) (w : World) : (neSG x y (.agg #[.int .i64 a, .int .i64 b]) (.agg #[.int .i64 c, .int .i64 d])).run Tryz.prog w = .ok (.bool (!eq2B a b c d)) w := by
  unfold neSG eq2B
  go_simp
  by_cases h1 : a = c
  · by_cases h2 : b = d
    · simp [h1, h2]
    · simp [h1, h2]
  · simp [h1]
attribute [local go_sem ↓] execOp_neS
attribute [local go_sem] run_neS

section
variable {W w : World} {R : List HP} {post : Ending → World → Prop}

set_option maxRecDepth 100000 in
set_option maxHeartbeats 4000000 in
theorem rstGood_c {c s : Int} (st : St W w R) (K : ∀ w', St W w' R → post (.returned (.bool (stampB c s))) w') : Calls Tryz.prog 109 #[.agg [Value.int .i64 c, .int .i64 s].toArray] w post := by
  have HK := K; clear K
  have hsb : stampB c s = (decide (1 ≤ c) && (decide (c ≤ 4294967295) && siteE s)) := rfl
  rw [hsb] at HK
  clear hsb
  obtain ⟨b0, e0⟩ : ∃ b, decide (1 ≤ c) = b := ⟨_, rfl⟩
  obtain ⟨b1, e1⟩ : ∃ b, decide (c ≤ 4294967295) = b := ⟨_, rfl⟩
  obtain ⟨b2, e2⟩ : ∃ b, siteE s = b := ⟨_, rfl⟩
  rw [e0, e1, e2] at HK
  cases b0 with
  | false =>
    simp only [Bool.false_and] at HK
    have HK2 := hid HK; clear HK
    go_enter Tryz.func109, Tryz.ntmps109
    go_wp2_with (first
      | (refine wpl_boxA (vs := [Value.int .i64 c, .int .i64 s]) rfl (.tmp 0) rfl rfl st ?_; rintro T w1 s1; obtain ⟨c0, c1⟩ := stL s1)
      | (go_at_call 62; refine rsiteE_c ?_; rw [e2])
      | fail)
    exact HK2.out _ (St.drop s1)
  | true =>
    cases b1 with
    | false =>
      simp only [Bool.true_and, Bool.false_and] at HK
      have HK2 := hid HK; clear HK
      go_enter Tryz.func109, Tryz.ntmps109
      go_wp2_with (first
        | (refine wpl_boxA (vs := [Value.int .i64 c, .int .i64 s]) rfl (.tmp 0) rfl rfl st ?_; rintro T w1 s1; obtain ⟨c0, c1⟩ := stL s1)
        | (go_at_call 62; refine rsiteE_c ?_; rw [e2])
        | fail)
      exact HK2.out _ (St.drop s1)
    | true =>
      cases b2 with
      | false =>
        simp only [Bool.true_and] at HK
        have HK2 := hid HK; clear HK
        go_enter Tryz.func109, Tryz.ntmps109
        go_wp2_with (first
          | (refine wpl_boxA (vs := [Value.int .i64 c, .int .i64 s]) rfl (.tmp 0) rfl rfl st ?_; rintro T w1 s1; obtain ⟨c0, c1⟩ := stL s1)
          | (go_at_call 62; refine rsiteE_c ?_; rw [e2])
          | fail)
        exact HK2.out _ (St.drop s1)
      | true =>
        simp only [Bool.true_and] at HK
        have HK2 := hid HK; clear HK
        go_enter Tryz.func109, Tryz.ntmps109
        go_wp2_with (first
          | (refine wpl_boxA (vs := [Value.int .i64 c, .int .i64 s]) rfl (.tmp 0) rfl rfl st ?_; rintro T w1 s1; obtain ⟨c0, c1⟩ := stL s1)
          | (go_at_call 62; refine rsiteE_c ?_; rw [e2])
          | fail)
        exact HK2.out _ (St.drop s1)

set_option maxRecDepth 100000 in
set_option maxHeartbeats 1000000 in
theorem rlater_c {c s d t : Int} (st : St W w R) (K : ∀ w', St W w' R → post (.returned (.bool (ltrB c s d t))) w') :
    Calls Tryz.prog 45 #[.agg [Value.int .i64 c, .int .i64 s].toArray, .agg [Value.int .i64 d, .int .i64 t].toArray] w post := by
  unfold ltrB at K
  obtain ⟨z, hz⟩ : ∃ z, (c != d) = z := ⟨_, rfl⟩
  rw [hz] at K
  cases z with
  | true =>
    replace K : ∀ w', St W w' R → post (.returned (.bool (decide (d < c)))) w' := K
    have HK := hid K; clear K
    go_enter Tryz.func45, Tryz.ntmps45
    go_wp2_with (first
      | (refine wpl_boxA (vs := [Value.int .i64 c, .int .i64 s]) rfl (.tmp 0) rfl rfl st ?_; rintro T w1 s1)
      | (refine wpl_boxA (vs := [Value.int .i64 d, .int .i64 t]) rfl (.tmp 1) rfl rfl s1 ?_; rintro U w2 s2; obtain ⟨c0, c1⟩ := stL s2; obtain ⟨d0, d1⟩ := stL (St.pick 1 s2)))
    exact HK.out _ (s2.dropN 2)
  | false =>
    replace K : ∀ w', St W w' R → post (.returned (.bool (decide (t < s)))) w' := K
    have HK := hid K; clear K
    go_enter Tryz.func45, Tryz.ntmps45
    go_wp2_with (first
      | (refine wpl_boxA (vs := [Value.int .i64 c, .int .i64 s]) rfl (.tmp 0) rfl rfl st ?_; rintro T w1 s1)
      | (refine wpl_boxA (vs := [Value.int .i64 d, .int .i64 t]) rfl (.tmp 1) rfl rfl s1 ?_; rintro U w2 s2; obtain ⟨c0, c1⟩ := stL s2; obtain ⟨d0, d1⟩ := stL (St.pick 1 s2)))
    exact HK.out _ (s2.dropN 2)

end


section
variable {W w : World} {R : List HP} {post : Ending → World → Prop}

set_option maxRecDepth 100000 in
set_option maxHeartbeats 16000000 in
theorem rcheckE_c {e : EnV} (st : St W w R) (K : ∀ w', St W w' R → post (.returned (.int .i64 (rcheckE e))) w') : Calls Tryz.prog 64 #[.agg e.cells.toArray] w post := by
  unfold rcheckE at K
  obtain ⟨k1, hk1⟩ : ∃ b, decide ((e.key.size : Int) < 1) = b := ⟨_, rfl⟩
  obtain ⟨k2, hk2⟩ : ∃ b, decide (16 < (e.key.size : Int)) = b := ⟨_, rfl⟩
  obtain ⟨v1, hv1⟩ : ∃ b, decide (32 < (e.val.size : Int)) = b := ⟨_, rfl⟩
  obtain ⟨v2, hv2⟩ : ∃ b, decide (0 < e.val.size) = b := ⟨_, rfl⟩
  have hv3 : lenB e.val = v2 := hv2
  obtain ⟨g1, hg1⟩ : ∃ b, stampB e.sc e.ss = b := ⟨_, rfl⟩
  obtain ⟨g2, hg2⟩ : ∃ b, stampB e.ac e.az = b := ⟨_, rfl⟩
  obtain ⟨zb, hz⟩ : ∃ z, ltrB e.sc e.ss e.ac e.az = z := ⟨_, rfl⟩
  obtain ⟨p0, q0⟩ : ∃ b, eq2B e.ac e.az e.sc e.ss = b := ⟨_, rfl⟩
  obtain ⟨p3, q3⟩ : ∃ b, (e.kp == 0) = b := ⟨_, rfl⟩
  obtain ⟨p4, q4⟩ : ∃ b, (e.age == 0) = b := ⟨_, rfl⟩
  obtain ⟨m1, n1⟩ : ∃ b, decide (1 ≤ e.kp) = b := ⟨_, rfl⟩
  obtain ⟨m2, n2⟩ : ∃ b, decide (e.kp ≤ 4095) = b := ⟨_, rfl⟩
  obtain ⟨m3, n3⟩ : ∃ b, decide (0 ≤ e.age) = b := ⟨_, rfl⟩
  obtain ⟨m4, n4⟩ : ∃ b, decide (e.age ≤ 2147483647) = b := ⟨_, rfl⟩
  obtain ⟨dd, hdd⟩ : ∃ b, e.dead = b := ⟨_, rfl⟩
  unfold keptB at K
  rw [plain_eq2, hk1, hk2, hv1, hv3, hg1, hg2, hz, q0, q3, q4, n1, n2, n3, n4, hdd] at K
  have HG1 := hid hg1; have HG2 := hid hg2; have HZ := hid hz; have HDD := hid hdd
  have j1 : decide (e.kp < 1) = !m1 := by rw [← n1]; by_cases h : 1 ≤ e.kp; (rw [decide_eq_true h, decide_eq_false (by omega)]; rfl); (rw [decide_eq_false h, decide_eq_true (by omega)]; rfl)
  have j2 : decide (4095 < e.kp) = !m2 := by rw [← n2]; by_cases h : e.kp ≤ 4095; (rw [decide_eq_true h, decide_eq_false (by omega)]; rfl); (rw [decide_eq_false h, decide_eq_true (by omega)]; rfl)
  have j3 : decide (e.age < 0) = !m3 := by rw [← n3]; by_cases h : 0 ≤ e.age; (rw [decide_eq_true h, decide_eq_false (by omega)]; rfl); (rw [decide_eq_false h, decide_eq_true (by omega)]; rfl)
  have j4 : decide (2147483647 < e.age) = !m4 := by rw [← n4]; by_cases h : e.age ≤ 2147483647; (rw [decide_eq_true h, decide_eq_false (by omega)]; rfl); (rw [decide_eq_false h, decide_eq_true (by omega)]; rfl)
  have i3 : (e.kp != 0) = !p3 := by rw [← q3]; rfl
  have i4 : (e.age != 0) = !p4 := by rw [← q4]; rfl
  clear hg1 hg2 hz hdd hv3 n1 n2 n3 n4 q3 q4
  cases k1 with
  | true =>
    replace K : ∀ w', St W w' R → post (.returned (.int .i64 9)) w' := K
    have HK := hid K; clear K
    go_enter Tryz.func64, Tryz.ntmps64
    go_upto_region 1 with (refine wpl_boxA (vs := e.cells) rfl (.tmp 0) rfl rfl st ?_; rintro T w1 s1; obtain ⟨c0, c1, c2, c3, c4, c5, c6⟩ := enLOf s1; rw [HDD.out] at c2)
    go_wp2_with (first
      | (go_at_call 45; refine rlater_c s1 ?_; rw [HZ.out]; clear c0 c1 c2 c3 c4 c5 c6 s1; rintro w1 s1; obtain ⟨c0, c1, c2, c3, c4, c5, c6⟩ := enLOf s1; rw [HDD.out] at c2)
      | (go_at_call 109; refine rstGood_c s1 ?_; (first | rw [HG1.out] | rw [HG2.out]); clear c0 c1 c2 c3 c4 c5 c6 s1; rintro w1 s1; obtain ⟨c0, c1, c2, c3, c4, c5, c6⟩ := enLOf s1; rw [HDD.out] at c2))
    exact HK.out _ s1.drop
  | false =>
    cases k2 with
    | true =>
      replace K : ∀ w', St W w' R → post (.returned (.int .i64 9)) w' := K
      have HK := hid K; clear K
      go_enter Tryz.func64, Tryz.ntmps64
      go_upto_region 1 with (refine wpl_boxA (vs := e.cells) rfl (.tmp 0) rfl rfl st ?_; rintro T w1 s1; obtain ⟨c0, c1, c2, c3, c4, c5, c6⟩ := enLOf s1; rw [HDD.out] at c2)
      go_wp2_with (first
        | (go_at_call 45; refine rlater_c s1 ?_; rw [HZ.out]; clear c0 c1 c2 c3 c4 c5 c6 s1; rintro w1 s1; obtain ⟨c0, c1, c2, c3, c4, c5, c6⟩ := enLOf s1; rw [HDD.out] at c2)
        | (go_at_call 109; refine rstGood_c s1 ?_; (first | rw [HG1.out] | rw [HG2.out]); clear c0 c1 c2 c3 c4 c5 c6 s1; rintro w1 s1; obtain ⟨c0, c1, c2, c3, c4, c5, c6⟩ := enLOf s1; rw [HDD.out] at c2))
      exact HK.out _ s1.drop
    | false =>
      cases v1 with
      | true =>
        replace K : ∀ w', St W w' R → post (.returned (.int .i64 10)) w' := K
        have HK := hid K; clear K
        go_enter Tryz.func64, Tryz.ntmps64
        go_upto_region 1 with (refine wpl_boxA (vs := e.cells) rfl (.tmp 0) rfl rfl st ?_; rintro T w1 s1; obtain ⟨c0, c1, c2, c3, c4, c5, c6⟩ := enLOf s1; rw [HDD.out] at c2)
        go_wp2_with (first
          | (go_at_call 45; refine rlater_c s1 ?_; rw [HZ.out]; clear c0 c1 c2 c3 c4 c5 c6 s1; rintro w1 s1; obtain ⟨c0, c1, c2, c3, c4, c5, c6⟩ := enLOf s1; rw [HDD.out] at c2)
          | (go_at_call 109; refine rstGood_c s1 ?_; (first | rw [HG1.out] | rw [HG2.out]); clear c0 c1 c2 c3 c4 c5 c6 s1; rintro w1 s1; obtain ⟨c0, c1, c2, c3, c4, c5, c6⟩ := enLOf s1; rw [HDD.out] at c2))
        exact HK.out _ s1.drop
      | false =>
        cases dd with
        | true =>
          cases v2 with
          | true =>
            replace K : ∀ w', St W w' R → post (.returned (.int .i64 10)) w' := K
            have HK := hid K; clear K
            go_enter Tryz.func64, Tryz.ntmps64
            go_upto_region 1 with (refine wpl_boxA (vs := e.cells) rfl (.tmp 0) rfl rfl st ?_; rintro T w1 s1; obtain ⟨c0, c1, c2, c3, c4, c5, c6⟩ := enLOf s1; rw [HDD.out] at c2)
            go_wp2_with (first
              | (go_at_call 45; refine rlater_c s1 ?_; rw [HZ.out]; clear c0 c1 c2 c3 c4 c5 c6 s1; rintro w1 s1; obtain ⟨c0, c1, c2, c3, c4, c5, c6⟩ := enLOf s1; rw [HDD.out] at c2)
              | (go_at_call 109; refine rstGood_c s1 ?_; (first | rw [HG1.out] | rw [HG2.out]); clear c0 c1 c2 c3 c4 c5 c6 s1; rintro w1 s1; obtain ⟨c0, c1, c2, c3, c4, c5, c6⟩ := enLOf s1; rw [HDD.out] at c2))
            exact HK.out _ s1.drop
          | false =>
            cases g1 with
            | false =>
              replace K : ∀ w', St W w' R → post (.returned (.int .i64 1)) w' := K
              have HK := hid K; clear K
              go_enter Tryz.func64, Tryz.ntmps64
              go_upto_region 1 with (refine wpl_boxA (vs := e.cells) rfl (.tmp 0) rfl rfl st ?_; rintro T w1 s1; obtain ⟨c0, c1, c2, c3, c4, c5, c6⟩ := enLOf s1; rw [HDD.out] at c2)
              go_wp2_with (first
                | (go_at_call 45; refine rlater_c s1 ?_; rw [HZ.out]; clear c0 c1 c2 c3 c4 c5 c6 s1; rintro w1 s1; obtain ⟨c0, c1, c2, c3, c4, c5, c6⟩ := enLOf s1; rw [HDD.out] at c2)
                | (go_at_call 109; refine rstGood_c s1 ?_; (first | rw [HG1.out] | rw [HG2.out]); clear c0 c1 c2 c3 c4 c5 c6 s1; rintro w1 s1; obtain ⟨c0, c1, c2, c3, c4, c5, c6⟩ := enLOf s1; rw [HDD.out] at c2))
              exact HK.out _ s1.drop
            | true =>
              cases g2 with
              | false =>
                replace K : ∀ w', St W w' R → post (.returned (.int .i64 1)) w' := K
                have HK := hid K; clear K
                go_enter Tryz.func64, Tryz.ntmps64
                go_upto_region 1 with (refine wpl_boxA (vs := e.cells) rfl (.tmp 0) rfl rfl st ?_; rintro T w1 s1; obtain ⟨c0, c1, c2, c3, c4, c5, c6⟩ := enLOf s1; rw [HDD.out] at c2)
                go_wp2_with (first
                  | (go_at_call 45; refine rlater_c s1 ?_; rw [HZ.out]; clear c0 c1 c2 c3 c4 c5 c6 s1; rintro w1 s1; obtain ⟨c0, c1, c2, c3, c4, c5, c6⟩ := enLOf s1; rw [HDD.out] at c2)
                  | (go_at_call 109; refine rstGood_c s1 ?_; (first | rw [HG1.out] | rw [HG2.out]); clear c0 c1 c2 c3 c4 c5 c6 s1; rintro w1 s1; obtain ⟨c0, c1, c2, c3, c4, c5, c6⟩ := enLOf s1; rw [HDD.out] at c2))
                exact HK.out _ s1.drop
              | true =>
                cases zb with
                | true =>
                  replace K : ∀ w', St W w' R → post (.returned (.int .i64 1)) w' := K
                  have HK := hid K; clear K
                  go_enter Tryz.func64, Tryz.ntmps64
                  go_upto_region 1 with (refine wpl_boxA (vs := e.cells) rfl (.tmp 0) rfl rfl st ?_; rintro T w1 s1; obtain ⟨c0, c1, c2, c3, c4, c5, c6⟩ := enLOf s1; rw [HDD.out] at c2)
                  go_wp2_with (first
                    | (go_at_call 45; refine rlater_c s1 ?_; rw [HZ.out]; clear c0 c1 c2 c3 c4 c5 c6 s1; rintro w1 s1; obtain ⟨c0, c1, c2, c3, c4, c5, c6⟩ := enLOf s1; rw [HDD.out] at c2)
                    | (go_at_call 109; refine rstGood_c s1 ?_; (first | rw [HG1.out] | rw [HG2.out]); clear c0 c1 c2 c3 c4 c5 c6 s1; rintro w1 s1; obtain ⟨c0, c1, c2, c3, c4, c5, c6⟩ := enLOf s1; rw [HDD.out] at c2))
                  exact HK.out _ s1.drop
                | false =>
                  cases m1 with
                  | false =>
                    replace K : ∀ w', St W w' R → post (.returned (.int .i64 1)) w' := K
                    have HK := hid K; clear K
                    go_enter Tryz.func64, Tryz.ntmps64
                    go_upto_region 1 with (refine wpl_boxA (vs := e.cells) rfl (.tmp 0) rfl rfl st ?_; rintro T w1 s1; obtain ⟨c0, c1, c2, c3, c4, c5, c6⟩ := enLOf s1; rw [HDD.out] at c2)
                    go_wp2_with (first
                      | (go_at_call 45; refine rlater_c s1 ?_; rw [HZ.out]; clear c0 c1 c2 c3 c4 c5 c6 s1; rintro w1 s1; obtain ⟨c0, c1, c2, c3, c4, c5, c6⟩ := enLOf s1; rw [HDD.out] at c2)
                      | (go_at_call 109; refine rstGood_c s1 ?_; (first | rw [HG1.out] | rw [HG2.out]); clear c0 c1 c2 c3 c4 c5 c6 s1; rintro w1 s1; obtain ⟨c0, c1, c2, c3, c4, c5, c6⟩ := enLOf s1; rw [HDD.out] at c2))
                    exact HK.out _ s1.drop
                  | true =>
                    cases m2 with
                    | false =>
                      replace K : ∀ w', St W w' R → post (.returned (.int .i64 1)) w' := K
                      have HK := hid K; clear K
                      go_enter Tryz.func64, Tryz.ntmps64
                      go_upto_region 1 with (refine wpl_boxA (vs := e.cells) rfl (.tmp 0) rfl rfl st ?_; rintro T w1 s1; obtain ⟨c0, c1, c2, c3, c4, c5, c6⟩ := enLOf s1; rw [HDD.out] at c2)
                      go_wp2_with (first
                        | (go_at_call 45; refine rlater_c s1 ?_; rw [HZ.out]; clear c0 c1 c2 c3 c4 c5 c6 s1; rintro w1 s1; obtain ⟨c0, c1, c2, c3, c4, c5, c6⟩ := enLOf s1; rw [HDD.out] at c2)
                        | (go_at_call 109; refine rstGood_c s1 ?_; (first | rw [HG1.out] | rw [HG2.out]); clear c0 c1 c2 c3 c4 c5 c6 s1; rintro w1 s1; obtain ⟨c0, c1, c2, c3, c4, c5, c6⟩ := enLOf s1; rw [HDD.out] at c2))
                      exact HK.out _ s1.drop
                    | true =>
                      cases m3 with
                      | false =>
                        replace K : ∀ w', St W w' R → post (.returned (.int .i64 1)) w' := K
                        have HK := hid K; clear K
                        go_enter Tryz.func64, Tryz.ntmps64
                        go_upto_region 1 with (refine wpl_boxA (vs := e.cells) rfl (.tmp 0) rfl rfl st ?_; rintro T w1 s1; obtain ⟨c0, c1, c2, c3, c4, c5, c6⟩ := enLOf s1; rw [HDD.out] at c2)
                        go_wp2_with (first
                          | (go_at_call 45; refine rlater_c s1 ?_; rw [HZ.out]; clear c0 c1 c2 c3 c4 c5 c6 s1; rintro w1 s1; obtain ⟨c0, c1, c2, c3, c4, c5, c6⟩ := enLOf s1; rw [HDD.out] at c2)
                          | (go_at_call 109; refine rstGood_c s1 ?_; (first | rw [HG1.out] | rw [HG2.out]); clear c0 c1 c2 c3 c4 c5 c6 s1; rintro w1 s1; obtain ⟨c0, c1, c2, c3, c4, c5, c6⟩ := enLOf s1; rw [HDD.out] at c2))
                        exact HK.out _ s1.drop
                      | true =>
                        cases m4 with
                        | false =>
                          replace K : ∀ w', St W w' R → post (.returned (.int .i64 1)) w' := K
                          have HK := hid K; clear K
                          go_enter Tryz.func64, Tryz.ntmps64
                          go_upto_region 1 with (refine wpl_boxA (vs := e.cells) rfl (.tmp 0) rfl rfl st ?_; rintro T w1 s1; obtain ⟨c0, c1, c2, c3, c4, c5, c6⟩ := enLOf s1; rw [HDD.out] at c2)
                          go_wp2_with (first
                            | (go_at_call 45; refine rlater_c s1 ?_; rw [HZ.out]; clear c0 c1 c2 c3 c4 c5 c6 s1; rintro w1 s1; obtain ⟨c0, c1, c2, c3, c4, c5, c6⟩ := enLOf s1; rw [HDD.out] at c2)
                            | (go_at_call 109; refine rstGood_c s1 ?_; (first | rw [HG1.out] | rw [HG2.out]); clear c0 c1 c2 c3 c4 c5 c6 s1; rintro w1 s1; obtain ⟨c0, c1, c2, c3, c4, c5, c6⟩ := enLOf s1; rw [HDD.out] at c2))
                          exact HK.out _ s1.drop
                        | true =>
                          replace K : ∀ w', St W w' R → post (.returned (.int .i64 0)) w' := K
                          have HK := hid K; clear K
                          go_enter Tryz.func64, Tryz.ntmps64
                          go_upto_region 1 with (refine wpl_boxA (vs := e.cells) rfl (.tmp 0) rfl rfl st ?_; rintro T w1 s1; obtain ⟨c0, c1, c2, c3, c4, c5, c6⟩ := enLOf s1; rw [HDD.out] at c2)
                          go_wp2_with (first
                            | (go_at_call 45; refine rlater_c s1 ?_; rw [HZ.out]; clear c0 c1 c2 c3 c4 c5 c6 s1; rintro w1 s1; obtain ⟨c0, c1, c2, c3, c4, c5, c6⟩ := enLOf s1; rw [HDD.out] at c2)
                            | (go_at_call 109; refine rstGood_c s1 ?_; (first | rw [HG1.out] | rw [HG2.out]); clear c0 c1 c2 c3 c4 c5 c6 s1; rintro w1 s1; obtain ⟨c0, c1, c2, c3, c4, c5, c6⟩ := enLOf s1; rw [HDD.out] at c2))
                          exact HK.out _ s1.drop
        | false =>
          cases g1 with
          | false =>
            replace K : ∀ w', St W w' R → post (.returned (.int .i64 1)) w' := K
            have HK := hid K; clear K
            go_enter Tryz.func64, Tryz.ntmps64
            go_upto_region 1 with (refine wpl_boxA (vs := e.cells) rfl (.tmp 0) rfl rfl st ?_; rintro T w1 s1; obtain ⟨c0, c1, c2, c3, c4, c5, c6⟩ := enLOf s1; rw [HDD.out] at c2)
            go_wp2_with (first
              | (go_at_call 45; refine rlater_c s1 ?_; rw [HZ.out]; clear c0 c1 c2 c3 c4 c5 c6 s1; rintro w1 s1; obtain ⟨c0, c1, c2, c3, c4, c5, c6⟩ := enLOf s1; rw [HDD.out] at c2)
              | (go_at_call 109; refine rstGood_c s1 ?_; (first | rw [HG1.out] | rw [HG2.out]); clear c0 c1 c2 c3 c4 c5 c6 s1; rintro w1 s1; obtain ⟨c0, c1, c2, c3, c4, c5, c6⟩ := enLOf s1; rw [HDD.out] at c2))
            exact HK.out _ s1.drop
          | true =>
            cases g2 with
            | false =>
              replace K : ∀ w', St W w' R → post (.returned (.int .i64 1)) w' := K
              have HK := hid K; clear K
              go_enter Tryz.func64, Tryz.ntmps64
              go_upto_region 1 with (refine wpl_boxA (vs := e.cells) rfl (.tmp 0) rfl rfl st ?_; rintro T w1 s1; obtain ⟨c0, c1, c2, c3, c4, c5, c6⟩ := enLOf s1; rw [HDD.out] at c2)
              go_wp2_with (first
                | (go_at_call 45; refine rlater_c s1 ?_; rw [HZ.out]; clear c0 c1 c2 c3 c4 c5 c6 s1; rintro w1 s1; obtain ⟨c0, c1, c2, c3, c4, c5, c6⟩ := enLOf s1; rw [HDD.out] at c2)
                | (go_at_call 109; refine rstGood_c s1 ?_; (first | rw [HG1.out] | rw [HG2.out]); clear c0 c1 c2 c3 c4 c5 c6 s1; rintro w1 s1; obtain ⟨c0, c1, c2, c3, c4, c5, c6⟩ := enLOf s1; rw [HDD.out] at c2))
              exact HK.out _ s1.drop
            | true =>
              cases zb with
              | true =>
                replace K : ∀ w', St W w' R → post (.returned (.int .i64 1)) w' := K
                have HK := hid K; clear K
                go_enter Tryz.func64, Tryz.ntmps64
                go_upto_region 1 with (refine wpl_boxA (vs := e.cells) rfl (.tmp 0) rfl rfl st ?_; rintro T w1 s1; obtain ⟨c0, c1, c2, c3, c4, c5, c6⟩ := enLOf s1; rw [HDD.out] at c2)
                go_wp2_with (first
                  | (go_at_call 45; refine rlater_c s1 ?_; rw [HZ.out]; clear c0 c1 c2 c3 c4 c5 c6 s1; rintro w1 s1; obtain ⟨c0, c1, c2, c3, c4, c5, c6⟩ := enLOf s1; rw [HDD.out] at c2)
                  | (go_at_call 109; refine rstGood_c s1 ?_; (first | rw [HG1.out] | rw [HG2.out]); clear c0 c1 c2 c3 c4 c5 c6 s1; rintro w1 s1; obtain ⟨c0, c1, c2, c3, c4, c5, c6⟩ := enLOf s1; rw [HDD.out] at c2))
                exact HK.out _ s1.drop
              | false =>
                cases p0 with
                | false =>
                  replace K : ∀ w', St W w' R → post (.returned (.int .i64 1)) w' := K
                  have HK := hid K; clear K
                  go_enter Tryz.func64, Tryz.ntmps64
                  go_upto_region 1 with (refine wpl_boxA (vs := e.cells) rfl (.tmp 0) rfl rfl st ?_; rintro T w1 s1; obtain ⟨c0, c1, c2, c3, c4, c5, c6⟩ := enLOf s1; rw [HDD.out] at c2)
                  go_wp2_with (first
                    | (go_at_call 45; refine rlater_c s1 ?_; rw [HZ.out]; clear c0 c1 c2 c3 c4 c5 c6 s1; rintro w1 s1; obtain ⟨c0, c1, c2, c3, c4, c5, c6⟩ := enLOf s1; rw [HDD.out] at c2)
                    | (go_at_call 109; refine rstGood_c s1 ?_; (first | rw [HG1.out] | rw [HG2.out]); clear c0 c1 c2 c3 c4 c5 c6 s1; rintro w1 s1; obtain ⟨c0, c1, c2, c3, c4, c5, c6⟩ := enLOf s1; rw [HDD.out] at c2))
                  exact HK.out _ s1.drop
                | true =>
                  cases p3 with
                  | false =>
                    replace K : ∀ w', St W w' R → post (.returned (.int .i64 1)) w' := K
                    have HK := hid K; clear K
                    go_enter Tryz.func64, Tryz.ntmps64
                    go_upto_region 1 with (refine wpl_boxA (vs := e.cells) rfl (.tmp 0) rfl rfl st ?_; rintro T w1 s1; obtain ⟨c0, c1, c2, c3, c4, c5, c6⟩ := enLOf s1; rw [HDD.out] at c2)
                    go_wp2_with (first
                      | (go_at_call 45; refine rlater_c s1 ?_; rw [HZ.out]; clear c0 c1 c2 c3 c4 c5 c6 s1; rintro w1 s1; obtain ⟨c0, c1, c2, c3, c4, c5, c6⟩ := enLOf s1; rw [HDD.out] at c2)
                      | (go_at_call 109; refine rstGood_c s1 ?_; (first | rw [HG1.out] | rw [HG2.out]); clear c0 c1 c2 c3 c4 c5 c6 s1; rintro w1 s1; obtain ⟨c0, c1, c2, c3, c4, c5, c6⟩ := enLOf s1; rw [HDD.out] at c2))
                    exact HK.out _ s1.drop
                  | true =>
                    cases p4 with
                    | false =>
                      replace K : ∀ w', St W w' R → post (.returned (.int .i64 1)) w' := K
                      have HK := hid K; clear K
                      go_enter Tryz.func64, Tryz.ntmps64
                      go_upto_region 1 with (refine wpl_boxA (vs := e.cells) rfl (.tmp 0) rfl rfl st ?_; rintro T w1 s1; obtain ⟨c0, c1, c2, c3, c4, c5, c6⟩ := enLOf s1; rw [HDD.out] at c2)
                      go_wp2_with (first
                        | (go_at_call 45; refine rlater_c s1 ?_; rw [HZ.out]; clear c0 c1 c2 c3 c4 c5 c6 s1; rintro w1 s1; obtain ⟨c0, c1, c2, c3, c4, c5, c6⟩ := enLOf s1; rw [HDD.out] at c2)
                        | (go_at_call 109; refine rstGood_c s1 ?_; (first | rw [HG1.out] | rw [HG2.out]); clear c0 c1 c2 c3 c4 c5 c6 s1; rintro w1 s1; obtain ⟨c0, c1, c2, c3, c4, c5, c6⟩ := enLOf s1; rw [HDD.out] at c2))
                      exact HK.out _ s1.drop
                    | true =>
                      replace K : ∀ w', St W w' R → post (.returned (.int .i64 0)) w' := K
                      have HK := hid K; clear K
                      go_enter Tryz.func64, Tryz.ntmps64
                      go_upto_region 1 with (refine wpl_boxA (vs := e.cells) rfl (.tmp 0) rfl rfl st ?_; rintro T w1 s1; obtain ⟨c0, c1, c2, c3, c4, c5, c6⟩ := enLOf s1; rw [HDD.out] at c2)
                      go_wp2_with (first
                        | (go_at_call 45; refine rlater_c s1 ?_; rw [HZ.out]; clear c0 c1 c2 c3 c4 c5 c6 s1; rintro w1 s1; obtain ⟨c0, c1, c2, c3, c4, c5, c6⟩ := enLOf s1; rw [HDD.out] at c2)
                        | (go_at_call 109; refine rstGood_c s1 ?_; (first | rw [HG1.out] | rw [HG2.out]); clear c0 c1 c2 c3 c4 c5 c6 s1; rintro w1 s1; obtain ⟨c0, c1, c2, c3, c4, c5, c6⟩ := enLOf s1; rw [HDD.out] at c2))
                      exact HK.out _ s1.drop

/-- The two checks agree. -/
theorem rcheckE_eq (e : EnV) (h : lenB e.val = !nilB e.val) : rcheckE e = checkE e := by
  unfold rcheckE checkE
  rw [h, ltrB_eq]
  cases e.dead <;> simp

end

end Go.Proofs.YtojfjbbggpfijaaGreatDoor
