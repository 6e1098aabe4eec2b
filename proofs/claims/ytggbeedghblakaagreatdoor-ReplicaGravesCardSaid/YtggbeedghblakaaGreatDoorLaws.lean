/- Laws: several texts, joined. The document's Site, Good of stamps, Later, Check of entries. Printed by mkREnt.py. -/
import Derived.Test.YtggbeedghblakaaGreatDoorMarks
import Derived.Deep.DeepCutAuto
import Derived.Test.YtggbeedghblakaaGreatDoorGras
import Derived.Test.YtggbeedghblakaaGreatDoorLib
import Derived.Test.YtggbeedghblakaaGreatDoorRows
import Derived.Test.YtggbeedghblakaaGreatDoorOpnA
namespace Go.Proofs.YtggbeedghblakaaGreatDoor
open Go.RowKit Go.Qd

/-- A bool that the walk shall not look into. -/
def siteB (n : Int) : Bool := decide (0 ≤ n) && decide (n < 12)
def ltrB (c s d t : Int) : Bool := if (c != d) = true then decide (d < c) else decide (t < s)
theorem ltrB_eq (c s d t : Int) : ltrB c s d t = decide (cmpS d t c s < 0) := by
  unfold ltrB cmpS orI cmpI
  by_cases h : c = d
  · subst h
    have e : (c != c) = false := by simp
    rw [e]
    simp only [Int.lt_irrefl, if_false, ne_eq, not_true_eq_false, Bool.false_eq_true]
    by_cases h2 : t < s
    · rw [if_pos h2]; simp [h2]
    · rw [if_neg h2]
      by_cases h3 : s < t
      · rw [if_pos h3]; simp [h2]
      · rw [if_neg h3]; simp [h2]
  · have e : (c != d) = true := by simp [h]
    rw [e]
    simp only [if_true]
    by_cases h2 : d < c
    · rw [if_pos h2]; simp [h2]
    · rw [if_neg h2, if_pos (by omega : c < d)]; simp [h2]
section
variable {W w : World} {R : List HP} {post : Ending → World → Prop}

theorem rsite_c {n : Int} (K : post (.returned (.bool (siteB n))) w) : Calls Tryz.prog 94 #[.int .i64 n] w post := by
  have HK := K; clear K
  unfold siteB at HK
  obtain ⟨b0, e0⟩ : ∃ b, decide (0 ≤ n) = b := ⟨_, rfl⟩
  obtain ⟨b1, e1⟩ : ∃ b, decide (n < 12) = b := ⟨_, rfl⟩
  rw [e0, e1] at HK
  cases b0 with
  | false =>
    simp only [Bool.false_and] at HK
    have HK2 := hid HK; clear HK
    go_enter Tryz.func94, Tryz.ntmps94
    go_wp2
    exact HK2.out
  | true =>
    cases b1 with
    | false =>
      simp only [Bool.true_and] at HK
      have HK2 := hid HK; clear HK
      go_enter Tryz.func94, Tryz.ntmps94
      go_wp2
      exact HK2.out
    | true =>
      simp only [Bool.true_and] at HK
      have HK2 := hid HK; clear HK
      go_enter Tryz.func94, Tryz.ntmps94
      go_wp2
      exact HK2.out

end

attribute [local go_sem ↓] execOp_ldAny

def lenB (b : ByteArray) : Bool := decide (0 < b.size)
/-- What the document's Check tells. -/
def rcheckE (e : EnV) : Int :=
  if (decide ((e.key.size : Int) < 1) || decide (16 < (e.key.size : Int))) = true then 9
  else if (decide (32 < (e.val.size : Int)) || (e.dead && lenB e.val)) = true then 10
  else if (!stampB e.sc e.ss || (!stampB e.ac e.az || ltrB e.sc e.ss e.ac e.az)) = true then 1
  else if (!e.dead && !plainB e) = true then 1
  else if (e.dead && !keptB e) = true then 1
  else 0

def eq2B (a b c d : Int) : Bool := decide (a = c) && decide (b = d)
theorem plain_eq2 (e : EnV) : plainB e = (eq2B e.ac e.az e.sc e.ss && ((e.kp == 0) && (e.age == 0))) := by unfold plainB eq2B; rw [Bool.and_assoc]
def neSG (x y : Operand) (a b : Value) : Sem Value := do eqGuard .neq 33 x y a b; Go.binOp .neq 33 a b
theorem execOp_neS (ρ : Operand → Value) (dst : Option Tmp) (x y : Operand) (r : TypeId) (ty : TypeId) (pos : String) (after : Array Edge) (guard : Option (Nat × Bool)) :
    execOp ρ { dst, op := .binOp .neq 33 x y r, type := ty, pos, after, guard } = (do pure (.value (← neSG x y (ρ x) (ρ y)))) := by simp [execOp, neSG]
theorem run_neS (x y : Operand) (a b c d : Int) (w : World) : (neSG x y (.agg #[.int .i64 a, .int .i64 b]) (.agg #[.int .i64 c, .int .i64 d])).run Tryz.prog w = .ok (.bool (!eq2B a b c d)) w := by
  unfold neSG eq2B
  go_simp
  by_cases h1 : a = c
  · by_cases h2 : b = d
    · simp [h1, h2]
    · simp [h1, h2]
  · simp [h1]
attribute [local go_sem ↓] execOp_neS
attribute [local go_sem] run_neS

section
variable {W w : World} {R : List HP} {post : Ending → World → Prop}

set_option maxRecDepth 100000 in
set_option maxHeartbeats 4000000 in
theorem rstGood_c {c s : Int} (st : St W w R) (K : ∀ w', St W w' R → post (.returned (.bool (stampB c s))) w') : Calls Tryz.prog 32 #[.agg [Value.int .i64 c, .int .i64 s].toArray] w post := by
  have HK := K; clear K
  have hsb : stampB c s = (decide (1 ≤ c) && (decide (c ≤ 4294967295) && siteB s)) := rfl
  rw [hsb] at HK
  clear hsb
  obtain ⟨b0, e0⟩ : ∃ b, decide (1 ≤ c) = b := ⟨_, rfl⟩
  obtain ⟨b1, e1⟩ : ∃ b, decide (c ≤ 4294967295) = b := ⟨_, rfl⟩
  obtain ⟨b2, e2⟩ : ∃ b, siteB s = b := ⟨_, rfl⟩
  rw [e0, e1, e2] at HK
  cases b0 with
  | false =>
    simp only [Bool.false_and] at HK
    have HK2 := hid HK; clear HK
    go_enter Tryz.func32, Tryz.ntmps32
    go_wp2_with (first
      | (refine wpl_boxA (vs := [Value.int .i64 c, .int .i64 s]) rfl (.tmp 0) rfl rfl st ?_; rintro T w1 s1; obtain ⟨c0, c1⟩ := stL s1)
      | (go_at_call 94; refine rsite_c ?_; rw [e2])
      | fail)
    exact HK2.out _ (St.drop s1)
  | true =>
    cases b1 with
    | false =>
      simp only [Bool.true_and, Bool.false_and] at HK
      have HK2 := hid HK; clear HK
      go_enter Tryz.func32, Tryz.ntmps32
      go_wp2_with (first
        | (refine wpl_boxA (vs := [Value.int .i64 c, .int .i64 s]) rfl (.tmp 0) rfl rfl st ?_; rintro T w1 s1; obtain ⟨c0, c1⟩ := stL s1)
        | (go_at_call 94; refine rsite_c ?_; rw [e2])
        | fail)
      exact HK2.out _ (St.drop s1)
    | true =>
      cases b2 with
      | false =>
        simp only [Bool.true_and] at HK
        have HK2 := hid HK; clear HK
        go_enter Tryz.func32, Tryz.ntmps32
        go_wp2_with (first
          | (refine wpl_boxA (vs := [Value.int .i64 c, .int .i64 s]) rfl (.tmp 0) rfl rfl st ?_; rintro T w1 s1; obtain ⟨c0, c1⟩ := stL s1)
          | (go_at_call 94; refine rsite_c ?_; rw [e2])
          | fail)
        exact HK2.out _ (St.drop s1)
      | true =>
        simp only [Bool.true_and] at HK
        have HK2 := hid HK; clear HK
        go_enter Tryz.func32, Tryz.ntmps32
        go_wp2_with (first
          | (refine wpl_boxA (vs := [Value.int .i64 c, .int .i64 s]) rfl (.tmp 0) rfl rfl st ?_; rintro T w1 s1; obtain ⟨c0, c1⟩ := stL s1)
          | (go_at_call 94; refine rsite_c ?_; rw [e2])
          | fail)
        exact HK2.out _ (St.drop s1)

set_option maxRecDepth 100000 in
set_option maxHeartbeats 1000000 in
theorem rlater_c {c s d t : Int} (st : St W w R) (K : ∀ w', St W w' R → post (.returned (.bool (ltrB c s d t))) w') :
    Calls Tryz.prog 34 #[.agg [Value.int .i64 c, .int .i64 s].toArray, .agg [Value.int .i64 d, .int .i64 t].toArray] w post := by
  unfold ltrB at K
  obtain ⟨z, hz⟩ : ∃ z, (c != d) = z := ⟨_, rfl⟩
  rw [hz] at K
  cases z with
  | true =>
    replace K : ∀ w', St W w' R → post (.returned (.bool (decide (d < c)))) w' := K
    have HK := hid K; clear K
    go_enter Tryz.func34, Tryz.ntmps34
    go_wp2_with (first
      | (refine wpl_boxA (vs := [Value.int .i64 c, .int .i64 s]) rfl (.tmp 0) rfl rfl st ?_; rintro T w1 s1)
      | (refine wpl_boxA (vs := [Value.int .i64 d, .int .i64 t]) rfl (.tmp 1) rfl rfl s1 ?_; rintro U w2 s2; obtain ⟨c0, c1⟩ := stL s2; obtain ⟨d0, d1⟩ := stL (St.pick 1 s2)))
    exact HK.out _ (s2.dropN 2)
  | false =>
    replace K : ∀ w', St W w' R → post (.returned (.bool (decide (t < s)))) w' := K
    have HK := hid K; clear K
    go_enter Tryz.func34, Tryz.ntmps34
    go_wp2_with (first
      | (refine wpl_boxA (vs := [Value.int .i64 c, .int .i64 s]) rfl (.tmp 0) rfl rfl st ?_; rintro T w1 s1)
      | (refine wpl_boxA (vs := [Value.int .i64 d, .int .i64 t]) rfl (.tmp 1) rfl rfl s1 ?_; rintro U w2 s2; obtain ⟨c0, c1⟩ := stL s2; obtain ⟨d0, d1⟩ := stL (St.pick 1 s2)))
    exact HK.out _ (s2.dropN 2)

end


section
variable {W w : World} {R : List HP} {post : Ending → World → Prop}

set_option maxRecDepth 100000 in
set_option maxHeartbeats 16000000 in
theorem rcheckE_c {e : EnV} (st : St W w R) (K : ∀ w', St W w' R → post (.returned (.int .i64 (rcheckE e))) w') : Calls Tryz.prog 18 #[.agg e.cells.toArray] w post := by
  unfold rcheckE at K
  obtain ⟨k1, hk1⟩ : ∃ b, decide ((e.key.size : Int) < 1) = b := ⟨_, rfl⟩
  obtain ⟨k2, hk2⟩ : ∃ b, decide (16 < (e.key.size : Int)) = b := ⟨_, rfl⟩
  obtain ⟨v1, hv1⟩ : ∃ b, decide (32 < (e.val.size : Int)) = b := ⟨_, rfl⟩
  obtain ⟨v2, hv2⟩ : ∃ b, decide (0 < e.val.size) = b := ⟨_, rfl⟩
  have hv3 : lenB e.val = v2 := hv2
  obtain ⟨g1, hg1⟩ : ∃ b, stampB e.sc e.ss = b := ⟨_, rfl⟩
  obtain ⟨g2, hg2⟩ : ∃ b, stampB e.ac e.az = b := ⟨_, rfl⟩
  obtain ⟨zb, hz⟩ : ∃ z, ltrB e.sc e.ss e.ac e.az = z := ⟨_, rfl⟩
  obtain ⟨p0, q0⟩ : ∃ b, eq2B e.ac e.az e.sc e.ss = b := ⟨_, rfl⟩
  obtain ⟨p3, q3⟩ : ∃ b, (e.kp == 0) = b := ⟨_, rfl⟩
  obtain ⟨p4, q4⟩ : ∃ b, (e.age == 0) = b := ⟨_, rfl⟩
  obtain ⟨m1, n1⟩ : ∃ b, decide (1 ≤ e.kp) = b := ⟨_, rfl⟩
  obtain ⟨m2, n2⟩ : ∃ b, decide (e.kp ≤ 4095) = b := ⟨_, rfl⟩
  obtain ⟨m3, n3⟩ : ∃ b, decide (0 ≤ e.age) = b := ⟨_, rfl⟩
  obtain ⟨m4, n4⟩ : ∃ b, decide (e.age ≤ 2147483647) = b := ⟨_, rfl⟩
  obtain ⟨dd, hdd⟩ : ∃ b, e.dead = b := ⟨_, rfl⟩
  unfold keptB at K
  rw [plain_eq2, hk1, hk2, hv1, hv3, hg1, hg2, hz, q0, q3, q4, n1, n2, n3, n4, hdd] at K
  have HG1 := hid hg1; have HG2 := hid hg2; have HZ := hid hz; have HDD := hid hdd
  have j1 : decide (e.kp < 1) = !m1 := by rw [← n1]; by_cases h : 1 ≤ e.kp; (rw [decide_eq_true h, decide_eq_false (by omega)]; rfl); (rw [decide_eq_false h, decide_eq_true (by omega)]; rfl)
  have j2 : decide (4095 < e.kp) = !m2 := by rw [← n2]; by_cases h : e.kp ≤ 4095; (rw [decide_eq_true h, decide_eq_false (by omega)]; rfl); (rw [decide_eq_false h, decide_eq_true (by omega)]; rfl)
  have j3 : decide (e.age < 0) = !m3 := by rw [← n3]; by_cases h : 0 ≤ e.age; (rw [decide_eq_true h, decide_eq_false (by omega)]; rfl); (rw [decide_eq_false h, decide_eq_true (by omega)]; rfl)
  have j4 : decide (2147483647 < e.age) = !m4 := by rw [← n4]; by_cases h : e.age ≤ 2147483647; (rw [decide_eq_true h, decide_eq_false (by omega)]; rfl); (rw [decide_eq_false h, decide_eq_true (by omega)]; rfl)
  have i3 : (e.kp != 0) = !p3 := by rw [← q3]; rfl
  have i4 : (e.age != 0) = !p4 := by rw [← q4]; rfl
  clear hg1 hg2 hz hdd hv3 n1 n2 n3 n4 q3 q4
  cases k1 with
  | true =>
    replace K : ∀ w', St W w' R → post (.returned (.int .i64 9)) w' := K
    have HK := hid K; clear K
    go_enter Tryz.func18, Tryz.ntmps18
    go_upto_region 1 with (refine wpl_boxA (vs := e.cells) rfl (.tmp 0) rfl rfl st ?_; rintro T w1 s1; obtain ⟨c0, c1, c2, c3, c4, c5, c6⟩ := enLOf s1; rw [HDD.out] at c2)
    go_wp2_with (first
      | (go_at_call 34; refine rlater_c s1 ?_; rw [HZ.out]; clear c0 c1 c2 c3 c4 c5 c6 s1; rintro w1 s1; obtain ⟨c0, c1, c2, c3, c4, c5, c6⟩ := enLOf s1; rw [HDD.out] at c2)
      | (go_at_call 32; refine rstGood_c s1 ?_; (first | rw [HG1.out] | rw [HG2.out]); clear c0 c1 c2 c3 c4 c5 c6 s1; rintro w1 s1; obtain ⟨c0, c1, c2, c3, c4, c5, c6⟩ := enLOf s1; rw [HDD.out] at c2))
    exact HK.out _ s1.drop
  | false =>
    cases k2 with
    | true =>
      replace K : ∀ w', St W w' R → post (.returned (.int .i64 9)) w' := K
      have HK := hid K; clear K
      go_enter Tryz.func18, Tryz.ntmps18
      go_upto_region 1 with (refine wpl_boxA (vs := e.cells) rfl (.tmp 0) rfl rfl st ?_; rintro T w1 s1; obtain ⟨c0, c1, c2, c3, c4, c5, c6⟩ := enLOf s1; rw [HDD.out] at c2)
      go_wp2_with (first
        | (go_at_call 34; refine rlater_c s1 ?_; rw [HZ.out]; clear c0 c1 c2 c3 c4 c5 c6 s1; rintro w1 s1; obtain ⟨c0, c1, c2, c3, c4, c5, c6⟩ := enLOf s1; rw [HDD.out] at c2)
        | (go_at_call 32; refine rstGood_c s1 ?_; (first | rw [HG1.out] | rw [HG2.out]); clear c0 c1 c2 c3 c4 c5 c6 s1; rintro w1 s1; obtain ⟨c0, c1, c2, c3, c4, c5, c6⟩ := enLOf s1; rw [HDD.out] at c2))
      exact HK.out _ s1.drop
    | false =>
      cases v1 with
      | true =>
        replace K : ∀ w', St W w' R → post (.returned (.int .i64 10)) w' := K
        have HK := hid K; clear K
        go_enter Tryz.func18, Tryz.ntmps18
        go_upto_region 1 with (refine wpl_boxA (vs := e.cells) rfl (.tmp 0) rfl rfl st ?_; rintro T w1 s1; obtain ⟨c0, c1, c2, c3, c4, c5, c6⟩ := enLOf s1; rw [HDD.out] at c2)
        go_wp2_with (first
          | (go_at_call 34; refine rlater_c s1 ?_; rw [HZ.out]; clear c0 c1 c2 c3 c4 c5 c6 s1; rintro w1 s1; obtain ⟨c0, c1, c2, c3, c4, c5, c6⟩ := enLOf s1; rw [HDD.out] at c2)
          | (go_at_call 32; refine rstGood_c s1 ?_; (first | rw [HG1.out] | rw [HG2.out]); clear c0 c1 c2 c3 c4 c5 c6 s1; rintro w1 s1; obtain ⟨c0, c1, c2, c3, c4, c5, c6⟩ := enLOf s1; rw [HDD.out] at c2))
        exact HK.out _ s1.drop
      | false =>
        cases dd with
        | true =>
          cases v2 with
          | true =>
            replace K : ∀ w', St W w' R → post (.returned (.int .i64 10)) w' := K
            have HK := hid K; clear K
            go_enter Tryz.func18, Tryz.ntmps18
            go_upto_region 1 with (refine wpl_boxA (vs := e.cells) rfl (.tmp 0) rfl rfl st ?_; rintro T w1 s1; obtain ⟨c0, c1, c2, c3, c4, c5, c6⟩ := enLOf s1; rw [HDD.out] at c2)
            go_wp2_with (first
              | (go_at_call 34; refine rlater_c s1 ?_; rw [HZ.out]; clear c0 c1 c2 c3 c4 c5 c6 s1; rintro w1 s1; obtain ⟨c0, c1, c2, c3, c4, c5, c6⟩ := enLOf s1; rw [HDD.out] at c2)
              | (go_at_call 32; refine rstGood_c s1 ?_; (first | rw [HG1.out] | rw [HG2.out]); clear c0 c1 c2 c3 c4 c5 c6 s1; rintro w1 s1; obtain ⟨c0, c1, c2, c3, c4, c5, c6⟩ := enLOf s1; rw [HDD.out] at c2))
            exact HK.out _ s1.drop
          | false =>
            cases g1 with
            | false =>
              replace K : ∀ w', St W w' R → post (.returned (.int .i64 1)) w' := K
              have HK := hid K; clear K
              go_enter Tryz.func18, Tryz.ntmps18
              go_upto_region 1 with (refine wpl_boxA (vs := e.cells) rfl (.tmp 0) rfl rfl st ?_; rintro T w1 s1; obtain ⟨c0, c1, c2, c3, c4, c5, c6⟩ := enLOf s1; rw [HDD.out] at c2)
              go_wp2_with (first
                | (go_at_call 34; refine rlater_c s1 ?_; rw [HZ.out]; clear c0 c1 c2 c3 c4 c5 c6 s1; rintro w1 s1; obtain ⟨c0, c1, c2, c3, c4, c5, c6⟩ := enLOf s1; rw [HDD.out] at c2)
                | (go_at_call 32; refine rstGood_c s1 ?_; (first | rw [HG1.out] | rw [HG2.out]); clear c0 c1 c2 c3 c4 c5 c6 s1; rintro w1 s1; obtain ⟨c0, c1, c2, c3, c4, c5, c6⟩ := enLOf s1; rw [HDD.out] at c2))
              exact HK.out _ s1.drop
            | true =>
              cases g2 with
              | false =>
                replace K : ∀ w', St W w' R → post (.returned (.int .i64 1)) w' := K
                have HK := hid K; clear K
                go_enter Tryz.func18, Tryz.ntmps18
                go_upto_region 1 with (refine wpl_boxA (vs := e.cells) rfl (.tmp 0) rfl rfl st ?_; rintro T w1 s1; obtain ⟨c0, c1, c2, c3, c4, c5, c6⟩ := enLOf s1; rw [HDD.out] at c2)
                go_wp2_with (first
                  | (go_at_call 34; refine rlater_c s1 ?_; rw [HZ.out]; clear c0 c1 c2 c3 c4 c5 c6 s1; rintro w1 s1; obtain ⟨c0, c1, c2, c3, c4, c5, c6⟩ := enLOf s1; rw [HDD.out] at c2)
                  | (go_at_call 32; refine rstGood_c s1 ?_; (first | rw [HG1.out] | rw [HG2.out]); clear c0 c1 c2 c3 c4 c5 c6 s1; rintro w1 s1; obtain ⟨c0, c1, c2, c3, c4, c5, c6⟩ := enLOf s1; rw [HDD.out] at c2))
                exact HK.out _ s1.drop
              | true =>
                cases zb with
                | true =>
                  replace K : ∀ w', St W w' R → post (.returned (.int .i64 1)) w' := K
                  have HK := hid K; clear K
                  go_enter Tryz.func18, Tryz.ntmps18
                  go_upto_region 1 with (refine wpl_boxA (vs := e.cells) rfl (.tmp 0) rfl rfl st ?_; rintro T w1 s1; obtain ⟨c0, c1, c2, c3, c4, c5, c6⟩ := enLOf s1; rw [HDD.out] at c2)
                  go_wp2_with (first
                    | (go_at_call 34; refine rlater_c s1 ?_; rw [HZ.out]; clear c0 c1 c2 c3 c4 c5 c6 s1; rintro w1 s1; obtain ⟨c0, c1, c2, c3, c4, c5, c6⟩ := enLOf s1; rw [HDD.out] at c2)
                    | (go_at_call 32; refine rstGood_c s1 ?_; (first | rw [HG1.out] | rw [HG2.out]); clear c0 c1 c2 c3 c4 c5 c6 s1; rintro w1 s1; obtain ⟨c0, c1, c2, c3, c4, c5, c6⟩ := enLOf s1; rw [HDD.out] at c2))
                  exact HK.out _ s1.drop
                | false =>
                  cases m1 with
                  | false =>
                    replace K : ∀ w', St W w' R → post (.returned (.int .i64 1)) w' := K
                    have HK := hid K; clear K
                    go_enter Tryz.func18, Tryz.ntmps18
                    go_upto_region 1 with (refine wpl_boxA (vs := e.cells) rfl (.tmp 0) rfl rfl st ?_; rintro T w1 s1; obtain ⟨c0, c1, c2, c3, c4, c5, c6⟩ := enLOf s1; rw [HDD.out] at c2)
                    go_wp2_with (first
                      | (go_at_call 34; refine rlater_c s1 ?_; rw [HZ.out]; clear c0 c1 c2 c3 c4 c5 c6 s1; rintro w1 s1; obtain ⟨c0, c1, c2, c3, c4, c5, c6⟩ := enLOf s1; rw [HDD.out] at c2)
                      | (go_at_call 32; refine rstGood_c s1 ?_; (first | rw [HG1.out] | rw [HG2.out]); clear c0 c1 c2 c3 c4 c5 c6 s1; rintro w1 s1; obtain ⟨c0, c1, c2, c3, c4, c5, c6⟩ := enLOf s1; rw [HDD.out] at c2))
                    exact HK.out _ s1.drop
                  | true =>
                    cases m2 with
                    | false =>
                      replace K : ∀ w', St W w' R → post (.returned (.int .i64 1)) w' := K
                      have HK := hid K; clear K
                      go_enter Tryz.func18, Tryz.ntmps18
                      go_upto_region 1 with (refine wpl_boxA (vs := e.cells) rfl (.tmp 0) rfl rfl st ?_; rintro T w1 s1; obtain ⟨c0, c1, c2, c3, c4, c5, c6⟩ := enLOf s1; rw [HDD.out] at c2)
                      go_wp2_with (first
                        | (go_at_call 34; refine rlater_c s1 ?_; rw [HZ.out]; clear c0 c1 c2 c3 c4 c5 c6 s1; rintro w1 s1; obtain ⟨c0, c1, c2, c3, c4, c5, c6⟩ := enLOf s1; rw [HDD.out] at c2)
                        | (go_at_call 32; refine rstGood_c s1 ?_; (first | rw [HG1.out] | rw [HG2.out]); clear c0 c1 c2 c3 c4 c5 c6 s1; rintro w1 s1; obtain ⟨c0, c1, c2, c3, c4, c5, c6⟩ := enLOf s1; rw [HDD.out] at c2))
                      exact HK.out _ s1.drop
                    | true =>
                      cases m3 with
                      | false =>
                        replace K : ∀ w', St W w' R → post (.returned (.int .i64 1)) w' := K
                        have HK := hid K; clear K
                        go_enter Tryz.func18, Tryz.ntmps18
                        go_upto_region 1 with (refine wpl_boxA (vs := e.cells) rfl (.tmp 0) rfl rfl st ?_; rintro T w1 s1; obtain ⟨c0, c1, c2, c3, c4, c5, c6⟩ := enLOf s1; rw [HDD.out] at c2)
                        go_wp2_with (first
                          | (go_at_call 34; refine rlater_c s1 ?_; rw [HZ.out]; clear c0 c1 c2 c3 c4 c5 c6 s1; rintro w1 s1; obtain ⟨c0, c1, c2, c3, c4, c5, c6⟩ := enLOf s1; rw [HDD.out] at c2)
                          | (go_at_call 32; refine rstGood_c s1 ?_; (first | rw [HG1.out] | rw [HG2.out]); clear c0 c1 c2 c3 c4 c5 c6 s1; rintro w1 s1; obtain ⟨c0, c1, c2, c3, c4, c5, c6⟩ := enLOf s1; rw [HDD.out] at c2))
                        exact HK.out _ s1.drop
                      | true =>
                        cases m4 with
                        | false =>
                          replace K : ∀ w', St W w' R → post (.returned (.int .i64 1)) w' := K
                          have HK := hid K; clear K
                          go_enter Tryz.func18, Tryz.ntmps18
                          go_upto_region 1 with (refine wpl_boxA (vs := e.cells) rfl (.tmp 0) rfl rfl st ?_; rintro T w1 s1; obtain ⟨c0, c1, c2, c3, c4, c5, c6⟩ := enLOf s1; rw [HDD.out] at c2)
                          go_wp2_with (first
                            | (go_at_call 34; refine rlater_c s1 ?_; rw [HZ.out]; clear c0 c1 c2 c3 c4 c5 c6 s1; rintro w1 s1; obtain ⟨c0, c1, c2, c3, c4, c5, c6⟩ := enLOf s1; rw [HDD.out] at c2)
                            | (go_at_call 32; refine rstGood_c s1 ?_; (first | rw [HG1.out] | rw [HG2.out]); clear c0 c1 c2 c3 c4 c5 c6 s1; rintro w1 s1; obtain ⟨c0, c1, c2, c3, c4, c5, c6⟩ := enLOf s1; rw [HDD.out] at c2))
                          exact HK.out _ s1.drop
                        | true =>
                          replace K : ∀ w', St W w' R → post (.returned (.int .i64 0)) w' := K
                          have HK := hid K; clear K
                          go_enter Tryz.func18, Tryz.ntmps18
                          go_upto_region 1 with (refine wpl_boxA (vs := e.cells) rfl (.tmp 0) rfl rfl st ?_; rintro T w1 s1; obtain ⟨c0, c1, c2, c3, c4, c5, c6⟩ := enLOf s1; rw [HDD.out] at c2)
                          go_wp2_with (first
                            | (go_at_call 34; refine rlater_c s1 ?_; rw [HZ.out]; clear c0 c1 c2 c3 c4 c5 c6 s1; rintro w1 s1; obtain ⟨c0, c1, c2, c3, c4, c5, c6⟩ := enLOf s1; rw [HDD.out] at c2)
                            | (go_at_call 32; refine rstGood_c s1 ?_; (first | rw [HG1.out] | rw [HG2.out]); clear c0 c1 c2 c3 c4 c5 c6 s1; rintro w1 s1; obtain ⟨c0, c1, c2, c3, c4, c5, c6⟩ := enLOf s1; rw [HDD.out] at c2))
                          exact HK.out _ s1.drop
        | false =>
          cases g1 with
          | false =>
            replace K : ∀ w', St W w' R → post (.returned (.int .i64 1)) w' := K
            have HK := hid K; clear K
            go_enter Tryz.func18, Tryz.ntmps18
            go_upto_region 1 with (refine wpl_boxA (vs := e.cells) rfl (.tmp 0) rfl rfl st ?_; rintro T w1 s1; obtain ⟨c0, c1, c2, c3, c4, c5, c6⟩ := enLOf s1; rw [HDD.out] at c2)
            go_wp2_with (first
              | (go_at_call 34; refine rlater_c s1 ?_; rw [HZ.out]; clear c0 c1 c2 c3 c4 c5 c6 s1; rintro w1 s1; obtain ⟨c0, c1, c2, c3, c4, c5, c6⟩ := enLOf s1; rw [HDD.out] at c2)
              | (go_at_call 32; refine rstGood_c s1 ?_; (first | rw [HG1.out] | rw [HG2.out]); clear c0 c1 c2 c3 c4 c5 c6 s1; rintro w1 s1; obtain ⟨c0, c1, c2, c3, c4, c5, c6⟩ := enLOf s1; rw [HDD.out] at c2))
            exact HK.out _ s1.drop
          | true =>
            cases g2 with
            | false =>
              replace K : ∀ w', St W w' R → post (.returned (.int .i64 1)) w' := K
              have HK := hid K; clear K
              go_enter Tryz.func18, Tryz.ntmps18
              go_upto_region 1 with (refine wpl_boxA (vs := e.cells) rfl (.tmp 0) rfl rfl st ?_; rintro T w1 s1; obtain ⟨c0, c1, c2, c3, c4, c5, c6⟩ := enLOf s1; rw [HDD.out] at c2)
              go_wp2_with (first
                | (go_at_call 34; refine rlater_c s1 ?_; rw [HZ.out]; clear c0 c1 c2 c3 c4 c5 c6 s1; rintro w1 s1; obtain ⟨c0, c1, c2, c3, c4, c5, c6⟩ := enLOf s1; rw [HDD.out] at c2)
                | (go_at_call 32; refine rstGood_c s1 ?_; (first | rw [HG1.out] | rw [HG2.out]); clear c0 c1 c2 c3 c4 c5 c6 s1; rintro w1 s1; obtain ⟨c0, c1, c2, c3, c4, c5, c6⟩ := enLOf s1; rw [HDD.out] at c2))
              exact HK.out _ s1.drop
            | true =>
              cases zb with
              | true =>
                replace K : ∀ w', St W w' R → post (.returned (.int .i64 1)) w' := K
                have HK := hid K; clear K
                go_enter Tryz.func18, Tryz.ntmps18
                go_upto_region 1 with (refine wpl_boxA (vs := e.cells) rfl (.tmp 0) rfl rfl st ?_; rintro T w1 s1; obtain ⟨c0, c1, c2, c3, c4, c5, c6⟩ := enLOf s1; rw [HDD.out] at c2)
                go_wp2_with (first
                  | (go_at_call 34; refine rlater_c s1 ?_; rw [HZ.out]; clear c0 c1 c2 c3 c4 c5 c6 s1; rintro w1 s1; obtain ⟨c0, c1, c2, c3, c4, c5, c6⟩ := enLOf s1; rw [HDD.out] at c2)
                  | (go_at_call 32; refine rstGood_c s1 ?_; (first | rw [HG1.out] | rw [HG2.out]); clear c0 c1 c2 c3 c4 c5 c6 s1; rintro w1 s1; obtain ⟨c0, c1, c2, c3, c4, c5, c6⟩ := enLOf s1; rw [HDD.out] at c2))
                exact HK.out _ s1.drop
              | false =>
                cases p0 with
                | false =>
                  replace K : ∀ w', St W w' R → post (.returned (.int .i64 1)) w' := K
                  have HK := hid K; clear K
                  go_enter Tryz.func18, Tryz.ntmps18
                  go_upto_region 1 with (refine wpl_boxA (vs := e.cells) rfl (.tmp 0) rfl rfl st ?_; rintro T w1 s1; obtain ⟨c0, c1, c2, c3, c4, c5, c6⟩ := enLOf s1; rw [HDD.out] at c2)
                  go_wp2_with (first
                    | (go_at_call 34; refine rlater_c s1 ?_; rw [HZ.out]; clear c0 c1 c2 c3 c4 c5 c6 s1; rintro w1 s1; obtain ⟨c0, c1, c2, c3, c4, c5, c6⟩ := enLOf s1; rw [HDD.out] at c2)
                    | (go_at_call 32; refine rstGood_c s1 ?_; (first | rw [HG1.out] | rw [HG2.out]); clear c0 c1 c2 c3 c4 c5 c6 s1; rintro w1 s1; obtain ⟨c0, c1, c2, c3, c4, c5, c6⟩ := enLOf s1; rw [HDD.out] at c2))
                  exact HK.out _ s1.drop
                | true =>
                  cases p3 with
                  | false =>
                    replace K : ∀ w', St W w' R → post (.returned (.int .i64 1)) w' := K
                    have HK := hid K; clear K
                    go_enter Tryz.func18, Tryz.ntmps18
                    go_upto_region 1 with (refine wpl_boxA (vs := e.cells) rfl (.tmp 0) rfl rfl st ?_; rintro T w1 s1; obtain ⟨c0, c1, c2, c3, c4, c5, c6⟩ := enLOf s1; rw [HDD.out] at c2)
                    go_wp2_with (first
                      | (go_at_call 34; refine rlater_c s1 ?_; rw [HZ.out]; clear c0 c1 c2 c3 c4 c5 c6 s1; rintro w1 s1; obtain ⟨c0, c1, c2, c3, c4, c5, c6⟩ := enLOf s1; rw [HDD.out] at c2)
                      | (go_at_call 32; refine rstGood_c s1 ?_; (first | rw [HG1.out] | rw [HG2.out]); clear c0 c1 c2 c3 c4 c5 c6 s1; rintro w1 s1; obtain ⟨c0, c1, c2, c3, c4, c5, c6⟩ := enLOf s1; rw [HDD.out] at c2))
                    exact HK.out _ s1.drop
                  | true =>
                    cases p4 with
                    | false =>
                      replace K : ∀ w', St W w' R → post (.returned (.int .i64 1)) w' := K
                      have HK := hid K; clear K
                      go_enter Tryz.func18, Tryz.ntmps18
                      go_upto_region 1 with (refine wpl_boxA (vs := e.cells) rfl (.tmp 0) rfl rfl st ?_; rintro T w1 s1; obtain ⟨c0, c1, c2, c3, c4, c5, c6⟩ := enLOf s1; rw [HDD.out] at c2)
                      go_wp2_with (first
                        | (go_at_call 34; refine rlater_c s1 ?_; rw [HZ.out]; clear c0 c1 c2 c3 c4 c5 c6 s1; rintro w1 s1; obtain ⟨c0, c1, c2, c3, c4, c5, c6⟩ := enLOf s1; rw [HDD.out] at c2)
                        | (go_at_call 32; refine rstGood_c s1 ?_; (first | rw [HG1.out] | rw [HG2.out]); clear c0 c1 c2 c3 c4 c5 c6 s1; rintro w1 s1; obtain ⟨c0, c1, c2, c3, c4, c5, c6⟩ := enLOf s1; rw [HDD.out] at c2))
                      exact HK.out _ s1.drop
                    | true =>
                      replace K : ∀ w', St W w' R → post (.returned (.int .i64 0)) w' := K
                      have HK := hid K; clear K
                      go_enter Tryz.func18, Tryz.ntmps18
                      go_upto_region 1 with (refine wpl_boxA (vs := e.cells) rfl (.tmp 0) rfl rfl st ?_; rintro T w1 s1; obtain ⟨c0, c1, c2, c3, c4, c5, c6⟩ := enLOf s1; rw [HDD.out] at c2)
                      go_wp2_with (first
                        | (go_at_call 34; refine rlater_c s1 ?_; rw [HZ.out]; clear c0 c1 c2 c3 c4 c5 c6 s1; rintro w1 s1; obtain ⟨c0, c1, c2, c3, c4, c5, c6⟩ := enLOf s1; rw [HDD.out] at c2)
                        | (go_at_call 32; refine rstGood_c s1 ?_; (first | rw [HG1.out] | rw [HG2.out]); clear c0 c1 c2 c3 c4 c5 c6 s1; rintro w1 s1; obtain ⟨c0, c1, c2, c3, c4, c5, c6⟩ := enLOf s1; rw [HDD.out] at c2))
                      exact HK.out _ s1.drop

/-- The two checks agree. -/
theorem rcheckE_eq (e : EnV) (h : lenB e.val = !nilB e.val) : rcheckE e = checkE e := by
  unfold rcheckE checkE
  rw [h, ltrB_eq]
  cases e.dead <;> simp

end

end Go.Proofs.YtggbeedghblakaaGreatDoor

/- The document's Newer and Alike of entries; Short; the sites' stamps compared. -/
namespace Go.Proofs.YtggbeedghblakaaGreatDoor
open Go.RowKit Go.Qd

def eqRG (x y : Operand) (a b : Value) : Sem Value := do eqGuard .eql 35 x y a b; Go.binOp .eql 35 a b
theorem execOp_eqR (ρ : Operand → Value) (dst : Option Tmp) (x y : Operand) (r : TypeId) (ty : TypeId) (pos : String) (after : Array Edge) (guard : Option (Nat × Bool)) :
    execOp ρ { dst, op := .binOp .eql 35 x y r, type := ty, pos, after, guard } = (do pure (.value (← eqRG x y (ρ x) (ρ y)))) := by simp [execOp, eqRG]
theorem run_eqR1 (x y : Operand) (a b : EnV) (w : World) : ∃ t : Bool, (t = true ↔ a = b) ∧ (eqRG x y (.agg a.cells.toArray) (.agg b.cells.toArray)).run Tryz.prog w = .ok (.bool t) w := by
  obtain ⟨k, v, d, sc, ss, ac, az, kp, ag⟩ := a
  obtain ⟨k', v', d', sc', ss', ac', az', kp', ag'⟩ := b
  unfold eqRG EnV.cells
  go_simp
  by_cases h : k = k' ∧ v = v' ∧ d = d' ∧ sc = sc' ∧ ss = ss' ∧ ac = ac' ∧ az = az' ∧ kp = kp' ∧ ag = ag'
  · refine Or.inr ⟨h, ?_⟩
    obtain ⟨rfl, rfl, rfl, rfl, rfl, rfl, rfl, rfl, rfl⟩ := h
    simp
  · exact Or.inl ⟨fun a1 a2 a3 a4 a5 a6 a7 a8 a9 => h ⟨a1, a2, a3, a4, a5, a6, a7, a8, a9⟩, fun a1 a2 a3 a4 a5 a6 a7 a8 a9 => h ⟨toList_inj a1, toList_inj a2, a3, a4, a5, a6, a7, a8, a9⟩⟩
open Classical in
theorem run_eqR (a b : EnV) (x y : Operand) (w : World) : (eqRG x y (.agg a.cells.toArray) (.agg b.cells.toArray)).run Tryz.prog w = .ok (.bool (eqEn a b)) w := by
  obtain ⟨t, h1, h2⟩ := run_eqR1 x y a b w
  rw [h2]
  have : t = eqEn a b := by
    unfold eqEn
    cases t with
    | true => exact (decide_eq_true (h1.1 rfl)).symm
    | false => exact (decide_eq_false (fun h => by have := h1.2 h; cases this)).symm
  rw [this]
theorem eqEn_true {a b : EnV} : eqEn a b = true ↔ a = b := by unfold eqEn; simp
theorem eqEn_rfl (a : EnV) : eqEn a a = true := eqEn_true.2 rfl
/-- The same, but for their ages. -/
noncomputable def alikeB (a b : EnV) : Bool := eqEn { a with age := b.age } b

theorem lenB_nil (b : ByteArray) : lenB b = !nilB b := by
  unfold lenB nilB
  have h : b.toList = b.data.toList := Lib.toList_data b
  rw [h]
  obtain ⟨⟨l⟩⟩ := b
  cases l with
  | nil => rfl
  | cons x l => rfl
theorem rcheckE_is (e : EnV) : rcheckE e = checkE e := rcheckE_eq e (lenB_nil e.val)

theorem ltrB_gt (c s d t : Int) : ltrB c s d t = decide (0 < cmpS c s d t) := by
  rw [ltrB_eq]
  have h1 := @cmpS_lt d t c s
  have h2 := @cmpS_gt c s d t
  by_cases h : cmpS d t c s < 0
  · rw [decide_eq_true h]; have := h1.1 h; exact (decide_eq_true (h2.2 (by omega))).symm
  · rw [decide_eq_false h]; exact (decide_eq_false (fun x => h (h1.2 (by have := h2.1 x; omega)))).symm
theorem rnewer_eq (a b : EnV) : (if (!eq2B a.sc a.ss b.sc b.ss) = true then ltrB a.sc a.ss b.sc b.ss else ltrB a.ac a.az b.ac b.az) = newerB a b := by
  unfold newerB
  rw [ltrB_gt, ltrB_gt]
  have h := @cmpS_zero a.sc a.ss b.sc b.ss
  unfold eq2B
  by_cases hz : cmpS a.sc a.ss b.sc b.ss = 0
  · obtain ⟨h1, h2⟩ := h.1 hz
    rw [if_pos hz, h1, h2]; simp
  · rw [if_neg hz, if_pos]
    rw [Bool.not_eq_true', Bool.and_eq_false_iff, decide_eq_false_iff_not, decide_eq_false_iff_not]
    by_cases h1 : a.sc = b.sc
    · exact .inr fun h2 => hz (h.2 ⟨h1, h2⟩)
    · exact .inl h1

def shortB (e : EnV) : Bool := decide ((e.key.size : Int) ≤ 300) && decide ((e.val.size : Int) ≤ 300)

section
attribute [local go_sem ↓] execOp_ldAny execOp_neS execOp_eqR
attribute [local go_sem] run_neS run_eqR
variable {W w : World} {R : List HP} {post : Ending → World → Prop}

set_option maxRecDepth 100000 in
theorem short_c {e : EnV} (st : St W w R) (K : ∀ w', St W w' R → post (.returned (.bool (shortB e))) w') : Calls Tryz.prog 15 #[.agg e.cells.toArray] w post := by
  unfold shortB at K
  obtain ⟨k1, hk1⟩ : ∃ b, decide ((e.key.size : Int) ≤ 300) = b := ⟨_, rfl⟩
  obtain ⟨v1, hv1⟩ : ∃ b, decide ((e.val.size : Int) ≤ 300) = b := ⟨_, rfl⟩
  rw [hk1, hv1] at K
  cases k1 with
  | false =>
    replace K : ∀ w', St W w' R → post (.returned (.bool false)) w' := K
    have HK := hid K; clear K
    go_enter Tryz.func15, Tryz.ntmps15
    go_wp2_with (refine wpl_boxA (vs := e.cells) rfl (.tmp 0) rfl rfl st ?_; rintro T w1 s1; obtain ⟨c0, c1, c2, c3, c4, c5, c6⟩ := enLOf s1)
    exact HK.out _ s1.drop
  | true =>
    replace K : ∀ w', St W w' R → post (.returned (.bool v1)) w' := K
    have HK := hid K; clear K
    go_enter Tryz.func15, Tryz.ntmps15
    go_wp2_with (refine wpl_boxA (vs := e.cells) rfl (.tmp 0) rfl rfl st ?_; rintro T w1 s1; obtain ⟨c0, c1, c2, c3, c4, c5, c6⟩ := enLOf s1)
    exact HK.out _ s1.drop

set_option maxRecDepth 100000 in
set_option maxHeartbeats 1000000 in
theorem rnewer_c {a b : EnV} (st : St W w R) (K : ∀ w', St W w' R → post (.returned (.bool (newerB a b))) w') : Calls Tryz.prog 21 #[.agg a.cells.toArray, .agg b.cells.toArray] w post := by
  rw [← rnewer_eq] at K
  obtain ⟨z, hz⟩ : ∃ z, eq2B a.sc a.ss b.sc b.ss = z := ⟨_, rfl⟩
  rw [hz] at K
  cases z with
  | false =>
    replace K : ∀ w', St W w' R → post (.returned (.bool (ltrB a.sc a.ss b.sc b.ss))) w' := K
    have HK := hid K; clear K
    go_enter Tryz.func21, Tryz.ntmps21
    go_wp2_with (first
      | (refine wpl_boxA (vs := a.cells) rfl (.tmp 0) rfl rfl st ?_; rintro T w1 s1)
      | (refine wpl_boxA (vs := b.cells) rfl (.tmp 1) rfl rfl s1 ?_; rintro U w2 s2; obtain ⟨c0, c1, c2, c3, c4, c5, c6⟩ := enLOf s2; obtain ⟨d0, d1, d2, d3, d4, d5, d6⟩ := enLOf (St.pick 1 s2))
      | (go_at_call 34; refine rlater_c s2 ?_; rintro w3 s3))
    exact HK.out _ (s3.dropN 2)
  | true =>
    replace K : ∀ w', St W w' R → post (.returned (.bool (ltrB a.ac a.az b.ac b.az))) w' := K
    have HK := hid K; clear K
    go_enter Tryz.func21, Tryz.ntmps21
    go_wp2_with (first
      | (refine wpl_boxA (vs := a.cells) rfl (.tmp 0) rfl rfl st ?_; rintro T w1 s1)
      | (refine wpl_boxA (vs := b.cells) rfl (.tmp 1) rfl rfl s1 ?_; rintro U w2 s2; obtain ⟨c0, c1, c2, c3, c4, c5, c6⟩ := enLOf s2; obtain ⟨d0, d1, d2, d3, d4, d5, d6⟩ := enLOf (St.pick 1 s2))
      | (go_at_call 34; refine rlater_c s2 ?_; rintro w3 s3))
    exact HK.out _ (s3.dropN 2)

set_option maxRecDepth 100000 in
set_option maxHeartbeats 1000000 in
theorem ralike_c {a b : EnV} (st : St W w R) (K : ∀ w', St W w' R → post (.returned (.bool (alikeB a b))) w') : Calls Tryz.prog 22 #[.agg a.cells.toArray, .agg b.cells.toArray] w post := by
  have HK := hid K; clear K
  go_enter Tryz.func22, Tryz.ntmps22
  go_wp2_with (first
    | (refine wpl_boxA (vs := a.cells) rfl (.tmp 0) rfl rfl st ?_; rintro T w1 s1)
    | (refine wpl_boxA (vs := b.cells) rfl (.tmp 1) rfl rfl s1 ?_; rintro U w2 s2; obtain ⟨c0, c1, c2, c3, c4, c5, c6⟩ := enLOf s2
       have d8 := (St.pick 1 s2).rowCell (i := 8) (v := .int .i64 a.age) rfl
       have f8 := (St.pick 1 s2).rowFree (i := 8) (by show 8 < 9; decide)
       have s3 : St W _ (row T 0 { a with age := b.age }.cells :: row U 0 b.cells :: R) := (St.pick 1 s2).rowSet (i := 8) (by show 8 < 9; decide) (.int .i64 b.age)
       rw [Nat.zero_add] at d8 f8 s3
       have lA := run_loadG agg_ren (vs := { a with age := b.age }.cells) rfl s3.rowAll
       have lB := run_loadG agg_ren (vs := b.cells) rfl (St.pick 1 s3).rowAll))
  exact HK.out _ (s3.dropN 2)
end
end Go.Proofs.YtggbeedghblakaaGreatDoor

/- The document's entries, marks, options and a replica's acts, as they come in. Printed by mkReadsE.py. -/
namespace Go.Proofs.YtggbeedghblakaaGreatDoor
open Go.RowKit Go.Qd Go.ChangeShapes Go.WideShapes Go.ChangeAt

set_option maxRecDepth 100000 in
set_option maxHeartbeats 1000000 in
theorem rst_cells {H : Type} {enc : TypeId × Value → H} {W : World} {base : Nat} {sp : Nat → Bool} {m : Nat} {cs : List Value} {y : DataW H × List MemPlace}
    (h : DataW.trod enc Tryz.prog W base sp true m 33 cs = some y) : ∃ c s : Int, cs = [.int .i64 c, .int .i64 s] := by
  obtain ⟨xs, k, rfl, rfl, hl, hx, hfs⟩ := DataW.trod_struct Tryz.underlying33 h
  have cE : Tryz.prog.cellsOf 33 = 2 := by kernel_rfl
  rw [cE] at hl
  have c_0 : Tryz.prog.cellsOf 3 = 1 := by kernel_rfl
  match cs, hl with
  | [u0, u1], _ =>
    have hx' : xs.length = 2 := hx
    have h0 : DataW.trod enc Tryz.prog W base sp true k 3 (([u0, u1].drop 0).take (Tryz.prog.cellsOf 3)) = xs[0]? := hfs 0 _ rfl
    have h1 : DataW.trod enc Tryz.prog W base sp true k 3 (([u0, u1].drop 1).take (Tryz.prog.cellsOf 3)) = xs[1]? := hfs 1 _ rfl
    rw [List.getElem?_eq_getElem (by omega)] at h0 h1
    simp only [c_0, List.drop_zero, List.drop_succ_cons, List.take_succ_cons, List.take_zero] at h0 h1
    obtain ⟨a, e0, r0⟩ := int_cells Tryz.underlying3 h0
    obtain ⟨b, e1, r1⟩ := int_cells Tryz.underlying3 h1
    simp at e0
    subst e0
    simp at e1
    subst e1
    exact ⟨a, b, rfl⟩

set_option maxRecDepth 100000 in
set_option maxHeartbeats 1000000 in
theorem rmk_cells {H : Type} {enc : TypeId × Value → H} {W : World} {base : Nat} {sp : Nat → Bool} {m : Nat} {cs : List Value} {y : DataW H × List MemPlace}
    (h : DataW.trod enc Tryz.prog W base sp true m 111 cs = some y) : ∃ x : MkV, cs = x.cells := by
  obtain ⟨xs, k, rfl, rfl, hl, hx, hfs⟩ := DataW.trod_struct Tryz.underlying111 h
  have cE : Tryz.prog.cellsOf 111 = 3 := by kernel_rfl
  rw [cE] at hl
  have c_0 : Tryz.prog.cellsOf 33 = 2 := by kernel_rfl
  have c_1 : Tryz.prog.cellsOf 9 = 1 := by kernel_rfl
  match cs, hl with
  | [u0, u1, u2], _ =>
    have hx' : xs.length = 2 := hx
    have h0 : DataW.trod enc Tryz.prog W base sp true k 33 (([u0, u1, u2].drop 0).take (Tryz.prog.cellsOf 33)) = xs[0]? := hfs 0 _ rfl
    have h1 : DataW.trod enc Tryz.prog W base sp true k 9 (([u0, u1, u2].drop 2).take (Tryz.prog.cellsOf 9)) = xs[1]? := hfs 1 _ rfl
    rw [List.getElem?_eq_getElem (by omega)] at h0 h1
    simp only [c_0, c_1, List.drop_zero, List.drop_succ_cons, List.take_succ_cons, List.take_zero] at h0 h1
    obtain ⟨a, b, e0⟩ := rst_cells h0
    obtain ⟨key, e1, _, q1⟩ := DataW.trod_string Tryz.underlying9 h1
    simp at e1
    subst e1
    simp at e0
    obtain ⟨rfl, rfl⟩ := e0
    exact ⟨⟨a, b, key⟩, rfl⟩

set_option maxRecDepth 100000 in
set_option maxHeartbeats 1000000 in
theorem ren_cells {H : Type} {enc : TypeId × Value → H} {W : World} {base : Nat} {sp : Nat → Bool} {m : Nat} {cs : List Value} {y : DataW H × List MemPlace}
    (h : DataW.trod enc Tryz.prog W base sp true m 35 cs = some y) : ∃ x : EnV, cs = x.cells := by
  obtain ⟨xs, k, rfl, rfl, hl, hx, hfs⟩ := DataW.trod_struct Tryz.underlying35 h
  have cE : Tryz.prog.cellsOf 35 = 9 := by kernel_rfl
  rw [cE] at hl
  have c_0 : Tryz.prog.cellsOf 9 = 1 := by kernel_rfl
  have c_1 : Tryz.prog.cellsOf 4 = 1 := by kernel_rfl
  have c_2 : Tryz.prog.cellsOf 33 = 2 := by kernel_rfl
  have c_3 : Tryz.prog.cellsOf 3 = 1 := by kernel_rfl
  match cs, hl with
  | [u0, u1, u2, u3, u4, u5, u6, u7, u8], _ =>
    have hx' : xs.length = 7 := hx
    have h0 : DataW.trod enc Tryz.prog W base sp true k 9 (([u0, u1, u2, u3, u4, u5, u6, u7, u8].drop 0).take (Tryz.prog.cellsOf 9)) = xs[0]? := hfs 0 _ rfl
    have h1 : DataW.trod enc Tryz.prog W base sp true k 9 (([u0, u1, u2, u3, u4, u5, u6, u7, u8].drop 1).take (Tryz.prog.cellsOf 9)) = xs[1]? := hfs 1 _ rfl
    have h2 : DataW.trod enc Tryz.prog W base sp true k 4 (([u0, u1, u2, u3, u4, u5, u6, u7, u8].drop 2).take (Tryz.prog.cellsOf 4)) = xs[2]? := hfs 2 _ rfl
    have h3 : DataW.trod enc Tryz.prog W base sp true k 33 (([u0, u1, u2, u3, u4, u5, u6, u7, u8].drop 3).take (Tryz.prog.cellsOf 33)) = xs[3]? := hfs 3 _ rfl
    have h4 : DataW.trod enc Tryz.prog W base sp true k 33 (([u0, u1, u2, u3, u4, u5, u6, u7, u8].drop 5).take (Tryz.prog.cellsOf 33)) = xs[4]? := hfs 4 _ rfl
    have h5 : DataW.trod enc Tryz.prog W base sp true k 3 (([u0, u1, u2, u3, u4, u5, u6, u7, u8].drop 7).take (Tryz.prog.cellsOf 3)) = xs[5]? := hfs 5 _ rfl
    have h6 : DataW.trod enc Tryz.prog W base sp true k 3 (([u0, u1, u2, u3, u4, u5, u6, u7, u8].drop 8).take (Tryz.prog.cellsOf 3)) = xs[6]? := hfs 6 _ rfl
    rw [List.getElem?_eq_getElem (by omega)] at h0 h1 h2 h3 h4 h5 h6
    simp only [c_0, c_1, c_2, c_3, List.drop_zero, List.drop_succ_cons, List.take_succ_cons, List.take_zero] at h0 h1 h2 h3 h4 h5 h6
    obtain ⟨key, e0, _, q0⟩ := DataW.trod_string Tryz.underlying9 h0
    obtain ⟨val, e1, _, q1⟩ := DataW.trod_string Tryz.underlying9 h1
    obtain ⟨dead, e2, _⟩ := DataW.trod_bool Tryz.underlying4 h2
    obtain ⟨a, b, e3⟩ := rst_cells h3
    obtain ⟨c, d, e4⟩ := rst_cells h4
    obtain ⟨kp, e5, r5⟩ := int_cells Tryz.underlying3 h5
    obtain ⟨age, e6, r6⟩ := int_cells Tryz.underlying3 h6
    simp at e0
    subst e0
    simp at e1
    subst e1
    simp at e2
    subst e2
    simp at e5
    subst e5
    simp at e6
    subst e6
    simp at e3 e4
    obtain ⟨rfl, rfl⟩ := e3
    obtain ⟨rfl, rfl⟩ := e4
    exact ⟨⟨key, val, dead, a, b, c, d, kp, age⟩, rfl⟩

theorem ents_of_trod {H : Type} {enc : TypeId × Value → H} {W : World} {base : Nat} {sp : Nat → Bool} {a : Option Addr} {n c : Nat} {d : DataW H} {p : List MemPlace}
    (h : DataW.Trod enc Tryz.prog W base sp true 22 (.slice a n c) d p) : ∃ l : List EnV, RdS W 9 a n c (enC l) ∧ ∀ x ∈ l, True := by
  obtain ⟨fuel, hf⟩ := h
  exact slice_cells EnV.cells (fun _ => True) en_one (by decide) Tryz.underlying22 (by kernel_rfl : Tryz.prog.cellsOf 35 = 9) (fun _ _ _ h => by obtain ⟨x, hx⟩ := ren_cells h; exact ⟨x, hx, trivial⟩) (by simpa [Value.cells] using hf)

/-- An act with a replica. -/
structure RAct where
  kind : Int
  key : ByteArray
  val : ByteArray
  e : EnV
def RAct.cells (x : RAct) : List Value := [.int .i64 x.kind, .string x.key, .string x.val] ++ x.e.cells
def ractC (l : List RAct) : List Value := (l.map RAct.cells).flatten
theorem ract_one (x : RAct) : ∀ u ∈ x.cells, u.oneCell' = true := by
  intro u hu
  rcases List.mem_append.1 hu with h | h
  · simp only [List.mem_cons, List.not_mem_nil, or_false] at h
    rcases h with rfl | rfl | rfl <;> rfl
  · exact en_one _ u h

set_option maxRecDepth 100000 in
set_option maxHeartbeats 1000000 in
theorem ract_cells {H : Type} {enc : TypeId × Value → H} {W : World} {base : Nat} {sp : Nat → Bool} {m : Nat} {cs : List Value} {y : DataW H × List MemPlace}
    (h : DataW.trod enc Tryz.prog W base sp true m 58 cs = some y) : ∃ x : RAct, cs = x.cells := by
  obtain ⟨xs, k, rfl, rfl, hl, hx, hfs⟩ := DataW.trod_struct Tryz.underlying58 h
  have cE : Tryz.prog.cellsOf 58 = 12 := by kernel_rfl
  rw [cE] at hl
  have c_0 : Tryz.prog.cellsOf 3 = 1 := by kernel_rfl
  have c_1 : Tryz.prog.cellsOf 9 = 1 := by kernel_rfl
  have c_2 : Tryz.prog.cellsOf 35 = 9 := by kernel_rfl
  match cs, hl with
  | [u0, u1, u2, u3, u4, u5, u6, u7, u8, u9, u10, u11], _ =>
    have hx' : xs.length = 4 := hx
    have h0 : DataW.trod enc Tryz.prog W base sp true k 3 (([u0, u1, u2, u3, u4, u5, u6, u7, u8, u9, u10, u11].drop 0).take (Tryz.prog.cellsOf 3)) = xs[0]? := hfs 0 _ rfl
    have h1 : DataW.trod enc Tryz.prog W base sp true k 9 (([u0, u1, u2, u3, u4, u5, u6, u7, u8, u9, u10, u11].drop 1).take (Tryz.prog.cellsOf 9)) = xs[1]? := hfs 1 _ rfl
    have h2 : DataW.trod enc Tryz.prog W base sp true k 9 (([u0, u1, u2, u3, u4, u5, u6, u7, u8, u9, u10, u11].drop 2).take (Tryz.prog.cellsOf 9)) = xs[2]? := hfs 2 _ rfl
    have h3 : DataW.trod enc Tryz.prog W base sp true k 35 (([u0, u1, u2, u3, u4, u5, u6, u7, u8, u9, u10, u11].drop 3).take (Tryz.prog.cellsOf 35)) = xs[3]? := hfs 3 _ rfl
    rw [List.getElem?_eq_getElem (by omega)] at h0 h1 h2 h3
    simp only [c_0, c_1, c_2, List.drop_zero, List.drop_succ_cons, List.take_succ_cons, List.take_zero] at h0 h1 h2 h3
    obtain ⟨kd, e0, r0⟩ := int_cells Tryz.underlying3 h0
    obtain ⟨key, e1, _, q1⟩ := DataW.trod_string Tryz.underlying9 h1
    obtain ⟨val, e2, _, q2⟩ := DataW.trod_string Tryz.underlying9 h2
    obtain ⟨x, e3⟩ := ren_cells h3
    simp at e0
    subst e0
    simp at e1
    subst e1
    simp at e2
    subst e2
    exact ⟨⟨kd, key, val, x⟩, by rw [RAct.cells, ← e3]; rfl⟩

theorem racts_of_trod {H : Type} {enc : TypeId × Value → H} {W : World} {base : Nat} {sp : Nat → Bool} {a : Option Addr} {n c : Nat} {d : DataW H} {p : List MemPlace}
    (h : DataW.Trod enc Tryz.prog W base sp true 52 (.slice a n c) d p) : ∃ l : List RAct, RdS W 12 a n c (ractC l) ∧ ∀ x ∈ l, True := by
  obtain ⟨fuel, hf⟩ := h
  exact slice_cells RAct.cells (fun _ => True) ract_one (by decide) Tryz.underlying52 (by kernel_rfl : Tryz.prog.cellsOf 58 = 12) (fun _ _ _ h => by obtain ⟨x, hx⟩ := ract_cells h; exact ⟨x, hx, trivial⟩) (by simpa [Value.cells] using hf)

set_option maxRecDepth 100000 in
set_option maxHeartbeats 1000000 in
theorem ropt_cells {H : Type} {enc : TypeId × Value → H} {W : World} {base : Nat} {sp : Nat → Bool} {m : Nat} {cs : List Value} {y : DataW H × List MemPlace}
    (h : DataW.trod enc Tryz.prog W base sp true m 51 cs = some y) : ∃ a b c d e : Int, cs = [.int .i64 a, .int .i64 b, .int .i64 c, .int .i64 d, .int .i64 e] := by
  obtain ⟨xs, k, rfl, rfl, hl, hx, hfs⟩ := DataW.trod_struct Tryz.underlying51 h
  have cE : Tryz.prog.cellsOf 51 = 5 := by kernel_rfl
  rw [cE] at hl
  have c_0 : Tryz.prog.cellsOf 3 = 1 := by kernel_rfl
  match cs, hl with
  | [u0, u1, u2, u3, u4], _ =>
    have hx' : xs.length = 5 := hx
    have h0 : DataW.trod enc Tryz.prog W base sp true k 3 (([u0, u1, u2, u3, u4].drop 0).take (Tryz.prog.cellsOf 3)) = xs[0]? := hfs 0 _ rfl
    have h1 : DataW.trod enc Tryz.prog W base sp true k 3 (([u0, u1, u2, u3, u4].drop 1).take (Tryz.prog.cellsOf 3)) = xs[1]? := hfs 1 _ rfl
    have h2 : DataW.trod enc Tryz.prog W base sp true k 3 (([u0, u1, u2, u3, u4].drop 2).take (Tryz.prog.cellsOf 3)) = xs[2]? := hfs 2 _ rfl
    have h3 : DataW.trod enc Tryz.prog W base sp true k 3 (([u0, u1, u2, u3, u4].drop 3).take (Tryz.prog.cellsOf 3)) = xs[3]? := hfs 3 _ rfl
    have h4 : DataW.trod enc Tryz.prog W base sp true k 3 (([u0, u1, u2, u3, u4].drop 4).take (Tryz.prog.cellsOf 3)) = xs[4]? := hfs 4 _ rfl
    rw [List.getElem?_eq_getElem (by omega)] at h0 h1 h2 h3 h4
    simp only [c_0, List.drop_zero, List.drop_succ_cons, List.take_succ_cons, List.take_zero] at h0 h1 h2 h3 h4
    obtain ⟨nodes, e0, r0⟩ := int_cells Tryz.underlying3 h0
    obtain ⟨quota, e1, r1⟩ := int_cells Tryz.underlying3 h1
    obtain ⟨retain, e2, r2⟩ := int_cells Tryz.underlying3 h2
    obtain ⟨t1, e3, r3⟩ := int_cells Tryz.underlying3 h3
    obtain ⟨t2, e4, r4⟩ := int_cells Tryz.underlying3 h4
    simp at e0
    subst e0
    simp at e1
    subst e1
    simp at e2
    subst e2
    simp at e3
    subst e3
    simp at e4
    subst e4
    exact ⟨nodes, quota, retain, t1, t2, rfl⟩

end Go.Proofs.YtggbeedghblakaaGreatDoor

/- The law's Few, Of; the document's Check and Room of options. Printed by mkLawR.py. -/
namespace Go.Proofs.YtggbeedghblakaaGreatDoor
open Go.RowKit Go.Qd

theorem agg_ra : AggT Tryz.prog 58 12 := ⟨⟨_, Tryz.underlying58, rfl⟩, by kernel_rfl⟩
def RAct.zero : RAct := ⟨0, ByteArray.empty, ByteArray.empty, en0⟩
theorem zero_ra (w : World) : (zeroValue 58).run Tryz.prog w = .ok (.agg RAct.zero.cells.toArray) w := by kernel_rfl
theorem ractC_get {l : List RAct} {i : Nat} (hi : i < l.length) {j : Nat} {u : Value} (h : (l[i].cells)[j]? = some u) : (ractC l)[i * 12 + j]? = some u := by
  have hj : j < 12 := by
    rcases Nat.lt_or_ge j 12 with g | g
    · exact g
    · rw [List.getElem?_eq_none (by simpa [RAct.cells, EnV.cells] using g)] at h; cases h
  have := flat_get (css := l.map RAct.cells) (sz := 12) (fun cs hc => by obtain ⟨x, _, rfl⟩ := List.mem_map.1 hc; rfl) (i := i) (by simpa using hi) (j := j) hj
  unfold ractC; rw [this, List.getElem_map]; exact h
theorem ractC_sz (l : List RAct) : (ractC l).length = l.length * 12 := by
  induction l with
  | nil => rfl
  | cons x l ih => show (x.cells ++ ractC l).length = _; rw [List.length_append, ih, List.length_cons]; simp [RAct.cells, EnV.cells]; omega
theorem ractC_ln {w : World} {ao : Option Addr} {n c : Nat} {l : List RAct} (rd : RdS w 12 ao n c (ractC l)) : l.length = n := by have := rd.len; rw [ractC_sz] at this; omega
theorem ract_ld {w : World} {b o n c i : Nat} {l : List RAct} (rd : RdS w 12 (some ⟨b, o, none⟩) n c (ractC l)) (hi : i < l.length) :
    (loadG 58 (.pointer (some ⟨b, o + i * 12, none⟩))).run Tryz.prog w = .ok (.agg l[i].cells.toArray) w := run_loadG agg_ra rfl (fun _ _ hu => rd.at2 (ractC_get hi hu))
/-- An act in its box. -/
theorem raLd {W w : World} {R : List HP} {T : Nat} {x : RAct} (s : St W w (row T 0 x.cells :: R)) :
    (loadG 3 (.pointer (some ⟨T, 0, none⟩))).run Tryz.prog w = .ok (.int .i64 x.kind) w ∧ (loadG 9 (.pointer (some ⟨T, 1, none⟩))).run Tryz.prog w = .ok (.string x.key) w ∧ (loadG 9 (.pointer (some ⟨T, 2, none⟩))).run Tryz.prog w = .ok (.string x.val) w ∧
    (loadG 35 (.pointer (some ⟨T, 3, none⟩))).run Tryz.prog w = .ok (.agg x.e.cells.toArray) w := by
  have f : ∀ i v, x.cells[i]? = some v → w.cell? ⟨T, i, none⟩ = some v := fun i v hv => by have := s.rowCell hv; rwa [Nat.zero_add] at this
  exact ⟨run_ldP (by kernel_rfl) (f 0 _ rfl), run_ldP (by kernel_rfl) (f 1 _ rfl), run_ldP (by kernel_rfl) (f 2 _ rfl), run_loadG (o := 0 + 3) agg_ren (vs := x.e.cells) rfl (St.rowPart s 3 (xs := x.e.cells) (ys := []) (by simp [RAct.cells]))⟩

section
variable {W w : World} {R : List HP} {post : Ending → World → Prop} {o : OptV}

set_option maxRecDepth 100000 in
set_option maxHeartbeats 2000000 in
theorem rock_0 (h0 : decide (o.nodes < 1) = true) (st : St W w R) (K : ∀ w', St W w' R → post (.returned (.int .i64 14)) w') : Calls Tryz.prog 25 #[.agg o.cells.toArray] w post := by
  have HK := hid K; clear K
  go_enter Tryz.func25, Tryz.ntmps25
  go_wp2_with (refine wpl_boxA (vs := o.cells) rfl (.tmp 0) rfl rfl st ?_; rintro T w1 s1; obtain ⟨k0, k1, k2, k3, k4⟩ := optRow s1)
  exact HK.out _ s1.drop

set_option maxRecDepth 100000 in
set_option maxHeartbeats 2000000 in
theorem rock_1 (h0 : decide (o.nodes < 1) = false) (h1 : decide (o.nodes > 12) = true) (st : St W w R) (K : ∀ w', St W w' R → post (.returned (.int .i64 14)) w') : Calls Tryz.prog 25 #[.agg o.cells.toArray] w post := by
  have HK := hid K; clear K
  go_enter Tryz.func25, Tryz.ntmps25
  go_wp2_with (refine wpl_boxA (vs := o.cells) rfl (.tmp 0) rfl rfl st ?_; rintro T w1 s1; obtain ⟨k0, k1, k2, k3, k4⟩ := optRow s1)
  exact HK.out _ s1.drop

set_option maxRecDepth 100000 in
set_option maxHeartbeats 2000000 in
theorem rock_2 (h0 : decide (o.nodes < 1) = false) (h1 : decide (o.nodes > 12) = false) (h2 : decide (o.quota < 1) = true) (st : St W w R) (K : ∀ w', St W w' R → post (.returned (.int .i64 14)) w') : Calls Tryz.prog 25 #[.agg o.cells.toArray] w post := by
  have HK := hid K; clear K
  go_enter Tryz.func25, Tryz.ntmps25
  go_wp2_with (refine wpl_boxA (vs := o.cells) rfl (.tmp 0) rfl rfl st ?_; rintro T w1 s1; obtain ⟨k0, k1, k2, k3, k4⟩ := optRow s1)
  exact HK.out _ s1.drop

set_option maxRecDepth 100000 in
set_option maxHeartbeats 2000000 in
theorem rock_3 (h0 : decide (o.nodes < 1) = false) (h1 : decide (o.nodes > 12) = false) (h2 : decide (o.quota < 1) = false) (h3 : decide (o.quota > 64) = true) (st : St W w R) (K : ∀ w', St W w' R → post (.returned (.int .i64 14)) w') : Calls Tryz.prog 25 #[.agg o.cells.toArray] w post := by
  have HK := hid K; clear K
  go_enter Tryz.func25, Tryz.ntmps25
  go_wp2_with (refine wpl_boxA (vs := o.cells) rfl (.tmp 0) rfl rfl st ?_; rintro T w1 s1; obtain ⟨k0, k1, k2, k3, k4⟩ := optRow s1)
  exact HK.out _ s1.drop

set_option maxRecDepth 100000 in
set_option maxHeartbeats 2000000 in
theorem rock_4 (h0 : decide (o.nodes < 1) = false) (h1 : decide (o.nodes > 12) = false) (h2 : decide (o.quota < 1) = false) (h3 : decide (o.quota > 64) = false) (h4 : decide (o.retain < 1) = true) (st : St W w R) (K : ∀ w', St W w' R → post (.returned (.int .i64 14)) w') : Calls Tryz.prog 25 #[.agg o.cells.toArray] w post := by
  have HK := hid K; clear K
  go_enter Tryz.func25, Tryz.ntmps25
  go_wp2_with (refine wpl_boxA (vs := o.cells) rfl (.tmp 0) rfl rfl st ?_; rintro T w1 s1; obtain ⟨k0, k1, k2, k3, k4⟩ := optRow s1)
  exact HK.out _ s1.drop

set_option maxRecDepth 100000 in
set_option maxHeartbeats 2000000 in
theorem rock_5 (h0 : decide (o.nodes < 1) = false) (h1 : decide (o.nodes > 12) = false) (h2 : decide (o.quota < 1) = false) (h3 : decide (o.quota > 64) = false) (h4 : decide (o.retain < 1) = false) (h5 : decide (o.retain > o.nodes) = true) (st : St W w R) (K : ∀ w', St W w' R → post (.returned (.int .i64 14)) w') : Calls Tryz.prog 25 #[.agg o.cells.toArray] w post := by
  have HK := hid K; clear K
  go_enter Tryz.func25, Tryz.ntmps25
  go_wp2_with (refine wpl_boxA (vs := o.cells) rfl (.tmp 0) rfl rfl st ?_; rintro T w1 s1; obtain ⟨k0, k1, k2, k3, k4⟩ := optRow s1)
  exact HK.out _ s1.drop

set_option maxRecDepth 100000 in
set_option maxHeartbeats 2000000 in
theorem rock_6 (h0 : decide (o.nodes < 1) = false) (h1 : decide (o.nodes > 12) = false) (h2 : decide (o.quota < 1) = false) (h3 : decide (o.quota > 64) = false) (h4 : decide (o.retain < 1) = false) (h5 : decide (o.retain > o.nodes) = false) (h6 : decide (o.t1 < 0) = true) (st : St W w R) (K : ∀ w', St W w' R → post (.returned (.int .i64 14)) w') : Calls Tryz.prog 25 #[.agg o.cells.toArray] w post := by
  have HK := hid K; clear K
  go_enter Tryz.func25, Tryz.ntmps25
  go_wp2_with (refine wpl_boxA (vs := o.cells) rfl (.tmp 0) rfl rfl st ?_; rintro T w1 s1; obtain ⟨k0, k1, k2, k3, k4⟩ := optRow s1)
  exact HK.out _ s1.drop

set_option maxRecDepth 100000 in
set_option maxHeartbeats 2000000 in
theorem rock_7 (h0 : decide (o.nodes < 1) = false) (h1 : decide (o.nodes > 12) = false) (h2 : decide (o.quota < 1) = false) (h3 : decide (o.quota > 64) = false) (h4 : decide (o.retain < 1) = false) (h5 : decide (o.retain > o.nodes) = false) (h6 : decide (o.t1 < 0) = false) (h7 : decide (o.t1 > 2147483647) = true) (st : St W w R) (K : ∀ w', St W w' R → post (.returned (.int .i64 14)) w') : Calls Tryz.prog 25 #[.agg o.cells.toArray] w post := by
  have HK := hid K; clear K
  go_enter Tryz.func25, Tryz.ntmps25
  go_wp2_with (refine wpl_boxA (vs := o.cells) rfl (.tmp 0) rfl rfl st ?_; rintro T w1 s1; obtain ⟨k0, k1, k2, k3, k4⟩ := optRow s1)
  exact HK.out _ s1.drop

set_option maxRecDepth 100000 in
set_option maxHeartbeats 2000000 in
theorem rock_8 (h0 : decide (o.nodes < 1) = false) (h1 : decide (o.nodes > 12) = false) (h2 : decide (o.quota < 1) = false) (h3 : decide (o.quota > 64) = false) (h4 : decide (o.retain < 1) = false) (h5 : decide (o.retain > o.nodes) = false) (h6 : decide (o.t1 < 0) = false) (h7 : decide (o.t1 > 2147483647) = false) (he1 : (o.t1 == 0) = true) (he2 : (o.t2 != 0) = true) (st : St W w R) (K : ∀ w', St W w' R → post (.returned (.int .i64 14)) w') : Calls Tryz.prog 25 #[.agg o.cells.toArray] w post := by
  have HK := hid K; clear K
  go_enter Tryz.func25, Tryz.ntmps25
  go_wp2_with (refine wpl_boxA (vs := o.cells) rfl (.tmp 0) rfl rfl st ?_; rintro T w1 s1; obtain ⟨k0, k1, k2, k3, k4⟩ := optRow s1)
  exact HK.out _ s1.drop

set_option maxRecDepth 100000 in
set_option maxHeartbeats 2000000 in
theorem rock_9 (h0 : decide (o.nodes < 1) = false) (h1 : decide (o.nodes > 12) = false) (h2 : decide (o.quota < 1) = false) (h3 : decide (o.quota > 64) = false) (h4 : decide (o.retain < 1) = false) (h5 : decide (o.retain > o.nodes) = false) (h6 : decide (o.t1 < 0) = false) (h7 : decide (o.t1 > 2147483647) = false) (he1 : (o.t1 == 0) = true) (he2 : (o.t2 != 0) = false) (hf1 : decide (o.t2 < o.t1) = true) (st : St W w R) (K : ∀ w', St W w' R → post (.returned (.int .i64 14)) w') : Calls Tryz.prog 25 #[.agg o.cells.toArray] w post := by
  have HK := hid K; clear K
  go_enter Tryz.func25, Tryz.ntmps25
  go_wp2_with (refine wpl_boxA (vs := o.cells) rfl (.tmp 0) rfl rfl st ?_; rintro T w1 s1; obtain ⟨k0, k1, k2, k3, k4⟩ := optRow s1)
  exact HK.out _ s1.drop

set_option maxRecDepth 100000 in
set_option maxHeartbeats 2000000 in
theorem rock_10 (h0 : decide (o.nodes < 1) = false) (h1 : decide (o.nodes > 12) = false) (h2 : decide (o.quota < 1) = false) (h3 : decide (o.quota > 64) = false) (h4 : decide (o.retain < 1) = false) (h5 : decide (o.retain > o.nodes) = false) (h6 : decide (o.t1 < 0) = false) (h7 : decide (o.t1 > 2147483647) = false) (he1 : (o.t1 == 0) = true) (he2 : (o.t2 != 0) = false) (hf1 : decide (o.t2 < o.t1) = false) (hf2 : decide (o.t2 > 2147483647) = true) (st : St W w R) (K : ∀ w', St W w' R → post (.returned (.int .i64 14)) w') : Calls Tryz.prog 25 #[.agg o.cells.toArray] w post := by
  have HK := hid K; clear K
  go_enter Tryz.func25, Tryz.ntmps25
  go_wp2_with (refine wpl_boxA (vs := o.cells) rfl (.tmp 0) rfl rfl st ?_; rintro T w1 s1; obtain ⟨k0, k1, k2, k3, k4⟩ := optRow s1)
  exact HK.out _ s1.drop

set_option maxRecDepth 100000 in
set_option maxHeartbeats 2000000 in
theorem rock_11 (h0 : decide (o.nodes < 1) = false) (h1 : decide (o.nodes > 12) = false) (h2 : decide (o.quota < 1) = false) (h3 : decide (o.quota > 64) = false) (h4 : decide (o.retain < 1) = false) (h5 : decide (o.retain > o.nodes) = false) (h6 : decide (o.t1 < 0) = false) (h7 : decide (o.t1 > 2147483647) = false) (he1 : (o.t1 == 0) = true) (he2 : (o.t2 != 0) = false) (hf1 : decide (o.t2 < o.t1) = false) (hf2 : decide (o.t2 > 2147483647) = false) (st : St W w R) (K : ∀ w', St W w' R → post (.returned (.int .i64 0)) w') : Calls Tryz.prog 25 #[.agg o.cells.toArray] w post := by
  have HK := hid K; clear K
  go_enter Tryz.func25, Tryz.ntmps25
  go_wp2_with (refine wpl_boxA (vs := o.cells) rfl (.tmp 0) rfl rfl st ?_; rintro T w1 s1; obtain ⟨k0, k1, k2, k3, k4⟩ := optRow s1)
  exact HK.out _ s1.drop

set_option maxRecDepth 100000 in
set_option maxHeartbeats 2000000 in
theorem rock_12 (h0 : decide (o.nodes < 1) = false) (h1 : decide (o.nodes > 12) = false) (h2 : decide (o.quota < 1) = false) (h3 : decide (o.quota > 64) = false) (h4 : decide (o.retain < 1) = false) (h5 : decide (o.retain > o.nodes) = false) (h6 : decide (o.t1 < 0) = false) (h7 : decide (o.t1 > 2147483647) = false) (he1 : (o.t1 == 0) = false) (hf1 : decide (o.t2 < o.t1) = true) (st : St W w R) (K : ∀ w', St W w' R → post (.returned (.int .i64 14)) w') : Calls Tryz.prog 25 #[.agg o.cells.toArray] w post := by
  have HK := hid K; clear K
  go_enter Tryz.func25, Tryz.ntmps25
  go_wp2_with (refine wpl_boxA (vs := o.cells) rfl (.tmp 0) rfl rfl st ?_; rintro T w1 s1; obtain ⟨k0, k1, k2, k3, k4⟩ := optRow s1)
  exact HK.out _ s1.drop

set_option maxRecDepth 100000 in
set_option maxHeartbeats 2000000 in
theorem rock_13 (h0 : decide (o.nodes < 1) = false) (h1 : decide (o.nodes > 12) = false) (h2 : decide (o.quota < 1) = false) (h3 : decide (o.quota > 64) = false) (h4 : decide (o.retain < 1) = false) (h5 : decide (o.retain > o.nodes) = false) (h6 : decide (o.t1 < 0) = false) (h7 : decide (o.t1 > 2147483647) = false) (he1 : (o.t1 == 0) = false) (hf1 : decide (o.t2 < o.t1) = false) (hf2 : decide (o.t2 > 2147483647) = true) (st : St W w R) (K : ∀ w', St W w' R → post (.returned (.int .i64 14)) w') : Calls Tryz.prog 25 #[.agg o.cells.toArray] w post := by
  have HK := hid K; clear K
  go_enter Tryz.func25, Tryz.ntmps25
  go_wp2_with (refine wpl_boxA (vs := o.cells) rfl (.tmp 0) rfl rfl st ?_; rintro T w1 s1; obtain ⟨k0, k1, k2, k3, k4⟩ := optRow s1)
  exact HK.out _ s1.drop

set_option maxRecDepth 100000 in
set_option maxHeartbeats 2000000 in
theorem rock_14 (h0 : decide (o.nodes < 1) = false) (h1 : decide (o.nodes > 12) = false) (h2 : decide (o.quota < 1) = false) (h3 : decide (o.quota > 64) = false) (h4 : decide (o.retain < 1) = false) (h5 : decide (o.retain > o.nodes) = false) (h6 : decide (o.t1 < 0) = false) (h7 : decide (o.t1 > 2147483647) = false) (he1 : (o.t1 == 0) = false) (hf1 : decide (o.t2 < o.t1) = false) (hf2 : decide (o.t2 > 2147483647) = false) (st : St W w R) (K : ∀ w', St W w' R → post (.returned (.int .i64 0)) w') : Calls Tryz.prog 25 #[.agg o.cells.toArray] w post := by
  have HK := hid K; clear K
  go_enter Tryz.func25, Tryz.ntmps25
  go_wp2_with (refine wpl_boxA (vs := o.cells) rfl (.tmp 0) rfl rfl st ?_; rintro T w1 s1; obtain ⟨k0, k1, k2, k3, k4⟩ := optRow s1)
  exact HK.out _ s1.drop

theorem check_of (h1 : 1 ≤ o.nodes ∧ o.nodes ≤ 12) (h2 : 1 ≤ o.quota ∧ o.quota ≤ 64) (h3 : 1 ≤ o.retain ∧ o.retain ≤ o.nodes) (h4 : 0 ≤ o.t1 ∧ o.t1 ≤ 2147483647) (h5 : o.t1 = 0 → o.t2 = 0) (h6 : o.t1 ≤ o.t2 ∧ o.t2 ≤ 2147483647) : o.check = 0 := by
  unfold OptV.check OptV.okB withinB
  rw [if_neg (by simp; omega), if_neg (by simp; omega), if_neg (by simp; omega)]

/-- The document's word on options. -/
theorem rocheck_c (st : St W w R) (K0 : o.check = 0 → ∀ w', St W w' R → post (.returned (.int .i64 0)) w') (K1 : ∀ w', St W w' R → post (.returned (.int .i64 14)) w') : Calls Tryz.prog 25 #[.agg o.cells.toArray] w post := by
  by_cases a0 : o.nodes < 1
  · exact rock_0  (decide_eq_true a0) st K1
  by_cases a1 : o.nodes > 12
  · exact rock_1 (decide_eq_false a0) (decide_eq_true a1) st K1
  by_cases a2 : o.quota < 1
  · exact rock_2 (decide_eq_false a0) (decide_eq_false a1) (decide_eq_true a2) st K1
  by_cases a3 : o.quota > 64
  · exact rock_3 (decide_eq_false a0) (decide_eq_false a1) (decide_eq_false a2) (decide_eq_true a3) st K1
  by_cases a4 : o.retain < 1
  · exact rock_4 (decide_eq_false a0) (decide_eq_false a1) (decide_eq_false a2) (decide_eq_false a3) (decide_eq_true a4) st K1
  by_cases a5 : o.retain > o.nodes
  · exact rock_5 (decide_eq_false a0) (decide_eq_false a1) (decide_eq_false a2) (decide_eq_false a3) (decide_eq_false a4) (decide_eq_true a5) st K1
  by_cases a6 : o.t1 < 0
  · exact rock_6 (decide_eq_false a0) (decide_eq_false a1) (decide_eq_false a2) (decide_eq_false a3) (decide_eq_false a4) (decide_eq_false a5) (decide_eq_true a6) st K1
  by_cases a7 : o.t1 > 2147483647
  · exact rock_7 (decide_eq_false a0) (decide_eq_false a1) (decide_eq_false a2) (decide_eq_false a3) (decide_eq_false a4) (decide_eq_false a5) (decide_eq_false a6) (decide_eq_true a7) st K1
  cases e1 : (o.t1 == 0) with
  | true =>
    cases e2 : (o.t2 != 0) with
    | true => exact rock_8 (decide_eq_false a0) (decide_eq_false a1) (decide_eq_false a2) (decide_eq_false a3) (decide_eq_false a4) (decide_eq_false a5) (decide_eq_false a6) (decide_eq_false a7) e1 e2 st K1
    | false =>
      by_cases f1 : o.t2 < o.t1
      · exact rock_9 (decide_eq_false a0) (decide_eq_false a1) (decide_eq_false a2) (decide_eq_false a3) (decide_eq_false a4) (decide_eq_false a5) (decide_eq_false a6) (decide_eq_false a7) e1 e2 (decide_eq_true f1) st K1
      by_cases f2 : o.t2 > 2147483647
      · exact rock_10 (decide_eq_false a0) (decide_eq_false a1) (decide_eq_false a2) (decide_eq_false a3) (decide_eq_false a4) (decide_eq_false a5) (decide_eq_false a6) (decide_eq_false a7) e1 e2 (decide_eq_false f1) (decide_eq_true f2) st K1
      refine rock_11 (decide_eq_false a0) (decide_eq_false a1) (decide_eq_false a2) (decide_eq_false a3) (decide_eq_false a4) (decide_eq_false a5) (decide_eq_false a6) (decide_eq_false a7) e1 e2 (decide_eq_false f1) (decide_eq_false f2) st (K0 ?_)
      have g1 : o.t1 = 0 := by simpa using e1
      have g2 : o.t2 = 0 := by simpa using e2
      exact check_of (by omega) (by omega) (by omega) (by omega) (by omega) (by omega)
  | false =>
    by_cases f1 : o.t2 < o.t1
    · exact rock_12 (decide_eq_false a0) (decide_eq_false a1) (decide_eq_false a2) (decide_eq_false a3) (decide_eq_false a4) (decide_eq_false a5) (decide_eq_false a6) (decide_eq_false a7) e1 (decide_eq_true f1) st K1
    by_cases f2 : o.t2 > 2147483647
    · exact rock_13 (decide_eq_false a0) (decide_eq_false a1) (decide_eq_false a2) (decide_eq_false a3) (decide_eq_false a4) (decide_eq_false a5) (decide_eq_false a6) (decide_eq_false a7) e1 (decide_eq_false f1) (decide_eq_true f2) st K1
    refine rock_14 (decide_eq_false a0) (decide_eq_false a1) (decide_eq_false a2) (decide_eq_false a3) (decide_eq_false a4) (decide_eq_false a5) (decide_eq_false a6) (decide_eq_false a7) e1 (decide_eq_false f1) (decide_eq_false f2) st (K0 ?_)
    have g1 : o.t1 ≠ 0 := by simpa using e1
    exact check_of (by omega) (by omega) (by omega) (by omega) (by omega) (by omega)

set_option maxRecDepth 100000 in
/-- For how many keys there is room. -/
theorem rroom_c (h1 : 1 ≤ o.nodes ∧ o.nodes ≤ 12) (h2 : 1 ≤ o.quota ∧ o.quota ≤ 64) (st : St W w R) (K : ∀ w', St W w' R → post (.returned (.int .i64 (o.nodes * o.quota))) w') : Calls Tryz.prog 31 #[.agg o.cells.toArray] w post := by
  have HK := hid K; clear K
  have hm : 0 ≤ o.nodes * o.quota ∧ o.nodes * o.quota ≤ 768 := ⟨Int.mul_nonneg (by omega) (by omega), by have := Int.mul_le_mul (a := o.nodes) (b := o.quota) (c := 12) (d := 64) h1.2 h2.2 (by omega) (by omega); omega⟩
  obtain ⟨z, hz⟩ : ∃ z, o.nodes * o.quota = z := ⟨_, rfl⟩
  rw [hz] at hm HK
  have hw : IntKind.i64.wrap (o.nodes * o.quota) = z := by rw [hz]; exact IntWalk.i64_in _ (by omega)
  clear hz
  go_enter Tryz.func31, Tryz.ntmps31
  go_wp2_with (refine wpl_boxA (vs := o.cells) rfl (.tmp 0) rfl rfl st ?_; rintro T w1 s1; obtain ⟨k0, k1, k2, k3, k4⟩ := optRow s1)
  exact HK.out _ s1.drop

set_option maxRecDepth 100000 in
/-- The program's options of the document's. -/
theorem of12_c (st : St W w R) (K : ∀ w', St W w' R → post (.returned (.agg o.cells.toArray)) w') : Calls Tryz.prog 26 #[.agg o.cells.toArray] w post := by
  have HK := hid K; clear K
  go_enter Tryz.func26, Tryz.ntmps26
  go_wp2_with (first
    | (refine wpl_boxA (vs := o.cells) rfl (.tmp 0) rfl rfl st ?_; rintro T w1 s1)
    | (refine wpl_allocA (vs := [.int .i64 0, .int .i64 0, .int .i64 0, .int .i64 0, .int .i64 0]) rfl rfl (fun _ => by kernel_rfl) s1 ?_; rintro U w2 s2; obtain ⟨k0, k1, k2, k3, k4⟩ := optRow (St.pick 1 s2))
    | (refine wpl_build rfl rfl (v := .agg o.cells.toArray) (by kernel_rfl) ?_)
    | (refine wpl_storeA (vs := o.cells) rfl (.tmp 2) (.tmp 13) (by rfl) agg_opt (by rfl) (by rfl) rfl (opt_one _) s2 rfl ?_; rintro w3 s3))
  have hL := run_loadA agg_opt (vs := o.cells) rfl s3.rowAll
  exact bodyPost_ret (v := .agg o.cells.toArray) (by simp [results, Tryz.results26, asAddr, hL, Act.put]) rfl (HK.out _ (s3.dropN 2))
end

section
attribute [local go_sem ↓] execOp_ldAny
variable {W w : World} {R : List HP} {post : Ending → World → Prop}
set_option maxRecDepth 100000 in
set_option maxHeartbeats 4000000 in
/-- Are acts few, and their texts short? -/
theorem few12_c {a : Option Addr} {n c : Nat} {l : List RAct} {most : Int} (rd : Rds W R 12 a n c (ractC l)) (hm : n ≤ 9223372036854775807) (st : St W w R) (K : ∀ b w', (b = true → (n : Int) ≤ most) → St W w' R → post (.returned (.bool b)) w') :
    Calls Tryz.prog 24 #[.slice a n c, .int .i64 most] w post := by
  have HK := hid K; clear K
  have HRD := hid rd
  have HN : Hid (l.length = n) := hid (ractC_ln (rd _ st))
  have HM := hid hm
  have hz : decide ((n : Int) ≤ most) = decide ((n : Int) ≤ most) := rfl
  clear rd
  go_enter Tryz.func24, Tryz.ntmps24
  go_wp2_with fail
  go_loopw [9] (fun ii wr => ∃ i : Nat, i ≤ n ∧ ii = .int .i64 i ∧ St W wr R) (fun ii _ => n - (intOf ii).toNat)
  case atStart => exact ⟨0, Nat.zero_le _, rfl, st⟩
  case round =>
    obtain ⟨i, hi, rfl, sr⟩ := hrel
    by_cases hlt : i < n
    · have hi2 : (i : Int) < (n : Int) := by omega
      have hiA : i < l.length := by rw [HN.out]; exact hlt
      have rdr := HRD.out _ sr
      obtain ⟨g3, o3, rfl⟩ := rdr.addr (by omega)
      have ci := ract_ld rdr hiA
      obtain ⟨x, hx⟩ : ∃ x, l[i] = x := ⟨_, rfl⟩
      rw [hx] at ci
      obtain ⟨b1, hb1⟩ : ∃ b, decide (40 < (x.key.size : Int)) = b := ⟨_, rfl⟩
      obtain ⟨b2, hb2⟩ : ∃ b, decide (60 < (x.val.size : Int)) = b := ⟨_, rfl⟩
      obtain ⟨b3, hb3⟩ : ∃ b, shortB x.e = b := ⟨_, rfl⟩
      have HB := hid hb3
      clear hx rdr hiA hb3
      cases b1 with
      | true =>
        go_wp2_with (first
          | (refine wpl_allocA rfl rfl zero_ra sr ?_; rintro T w2 s2)
          | (refine wpl_storeA (vs := x.cells) rfl (.tmp 6) (.tmp 12) (by rfl) agg_ra (by rfl) (by rfl) rfl (ract_one _) s2 rfl ?_; rintro w3 s3; obtain ⟨l0, l1, l2, l3⟩ := raLd s3))
        exact HK.out _ _ (fun h => by cases h) s3.drop
      | false =>
      cases b2 with
      | true =>
        go_wp2_with (first
          | (refine wpl_allocA rfl rfl zero_ra sr ?_; rintro T w2 s2)
          | (refine wpl_storeA (vs := x.cells) rfl (.tmp 6) (.tmp 12) (by rfl) agg_ra (by rfl) (by rfl) rfl (ract_one _) s2 rfl ?_; rintro w3 s3; obtain ⟨l0, l1, l2, l3⟩ := raLd s3))
        exact HK.out _ _ (fun h => by cases h) s3.drop
      | false =>
      cases b3 with
      | false =>
        go_wp2_with (first
          | (refine wpl_allocA rfl rfl zero_ra sr ?_; rintro T w2 s2)
          | (refine wpl_storeA (vs := x.cells) rfl (.tmp 6) (.tmp 12) (by rfl) agg_ra (by rfl) (by rfl) rfl (ract_one _) s2 rfl ?_; rintro w3 s3; obtain ⟨l0, l1, l2, l3⟩ := raLd s3)
          | (go_at_call 15; refine short_c s3 ?_; rintro w4 s4; rw [HB.out]))
        exact HK.out _ _ (fun h => by cases h) s4.drop
      | true =>
        go_wp2_with (first
          | (refine wpl_allocA rfl rfl zero_ra sr ?_; rintro T w2 s2)
          | (refine wpl_storeA (vs := x.cells) rfl (.tmp 6) (.tmp 12) (by rfl) agg_ra (by rfl) (by rfl) rfl (ract_one _) s2 rfl ?_; rintro w3 s3; obtain ⟨l0, l1, l2, l3⟩ := raLd s3)
          | (go_at_call 15; refine short_c s3 ?_; rintro w4 s4; rw [HB.out]))
        go_roundw
        case rel => exact ⟨i + 1, by omega, by go_num, s4.drop⟩
        case measure => simp [intOf]; omega
    · have hie : i = n := by omega
      subst hie
      go_wp2_with fail
      exact HK.out _ _ (fun h => of_decide_eq_true h) sr
end
end Go.Proofs.YtggbeedghblakaaGreatDoor
