/- Stamps, marks and entries: which may be, which is later. Printed by mkMarkA.py. -/
import Derived.Test.YtojfjbbggpfijaaGreatDoorProg
import Derived.Test.YtojfjbbggpfijaaGreatDoorLib
import Derived.Deep.RegionLaw
namespace Go.Proofs.YtojfjbbggpfijaaGreatDoor
open Go.RowKit Go.Qd

structure MkV where
  c : Int
  s : Int
  key : ByteArray
def MkV.cells (x : MkV) : List Value := [.int .i64 x.c, .int .i64 x.s, .string x.key]
structure EnV where
  key : ByteArray
  val : ByteArray
  dead : Bool
  sc : Int
  ss : Int
  ac : Int
  az : Int
  kp : Int
  age : Int
def EnV.cells (x : EnV) : List Value := [.string x.key, .string x.val, .bool x.dead, .int .i64 x.sc, .int .i64 x.ss, .int .i64 x.ac, .int .i64 x.az, .int .i64 x.kp, .int .i64 x.age]

def stampB (c s : Int) : Bool := decide (1 ≤ c) && (decide (c ≤ 4294967295) && (decide (0 ≤ s) && decide (s < 12)))
def markB (m : MkV) : Bool := stampB m.c m.s && (decide (1 ≤ (m.key.size : Int)) && decide ((m.key.size : Int) ≤ 16))
def cmpI (x y : Int) : Int := if x < y then -1 else if y < x then 1 else 0
def orI (x y : Int) : Int := if x ≠ 0 then x else y
def cmpS (c s d t : Int) : Int := orI (cmpI c d) (cmpI s t)
def plainB (e : EnV) : Bool := decide (e.ac = e.sc) && (decide (e.az = e.ss) && ((e.kp == 0) && (e.age == 0)))
def keptB (e : EnV) : Bool := decide (1 ≤ e.kp) && (decide (e.kp ≤ 4095) && (decide (0 ≤ e.age) && decide (e.age ≤ 2147483647)))
def nilB (b : ByteArray) : Bool := b.toList.isEmpty
def checkE (e : EnV) : Int :=
  if (decide ((e.key.size : Int) < 1) || decide (16 < (e.key.size : Int))) = true then 9
  else if (decide (32 < (e.val.size : Int)) || (e.dead && !nilB e.val)) = true then 10
  else if (!stampB e.sc e.ss || (!stampB e.ac e.az || decide (cmpS e.ac e.az e.sc e.ss < 0))) = true then 1
  else if ((!e.dead && !plainB e) || (e.dead && !keptB e)) = true then 1
  else 0

theorem agg_st : AggT Tryz.prog 57 2 := ⟨⟨_, Tryz.underlying57, rfl⟩, by kernel_rfl⟩
theorem agg_mk : AggT Tryz.prog 59 3 := ⟨⟨_, Tryz.underlying59, rfl⟩, by kernel_rfl⟩
theorem agg_en : AggT Tryz.prog 67 9 := ⟨⟨_, Tryz.underlying67, rfl⟩, by kernel_rfl⟩
theorem execOp_ldAny (t : TypeId) (ρ : Operand → Value) (dst : Option Tmp) (a : Operand) (ty : TypeId) (pos : String) (after : Array Edge) (guard : Option (Nat × Bool)) :
    execOp ρ { dst, op := .load t a, type := ty, pos, after, guard } = (do pure (.value (← loadG t (ρ a)))) := rfl
theorem run_ldP {t : TypeId} {w : World} {B o : Nat} {v : Value} (hg : (isAgg t).run Tryz.prog w = .ok false w) (h : w.cell? ⟨B, o, none⟩ = some v) : (loadG t (.pointer (some ⟨B, o, none⟩))).run Tryz.prog w = .ok v w := by
  unfold loadG
  simp [go_sem, h, hg, Instr.loadAt]
section
variable {W w : World} {R : List HP} {post : Ending → World → Prop}

theorem isNaN_c {x : Int} (K : post (.returned (.bool false)) w) : Calls Tryz.prog 187 #[.int .i64 x] w post := by
  have HK := hid K; clear K
  go_enter Tryz.func187, Tryz.ntmps187
  go_wp2
  exact HK.out

theorem cmpI_c {x y : Int} (K : post (.returned (.int .i64 (cmpI x y))) w) : Calls Tryz.prog 155 #[.int .i64 x, .int .i64 y] w post := by
  have HK := K; clear K
  unfold cmpI at HK
  by_cases h1 : x < y
  · rw [if_pos h1] at HK
    have HK2 := hid HK; clear HK
    have h1' : decide (x < y) = true := decide_eq_true h1
    go_enter Tryz.func155, Tryz.ntmps155
    go_wp2_with (go_at_call 187; refine isNaN_c ?_)
    exact HK2.out
  · rw [if_neg h1] at HK
    have h1' : decide (x < y) = false := decide_eq_false h1
    by_cases h2 : y < x
    · rw [if_pos h2] at HK
      have HK2 := hid HK; clear HK
      have h2' : decide (y < x) = true := decide_eq_true h2
      go_enter Tryz.func155, Tryz.ntmps155
      go_wp2_with (go_at_call 187; refine isNaN_c ?_)
      exact HK2.out
    · rw [if_neg h2] at HK
      have HK2 := hid HK; clear HK
      have h2' : decide (y < x) = false := decide_eq_false h2
      go_enter Tryz.func155, Tryz.ntmps155
      go_wp2_with (go_at_call 187; refine isNaN_c ?_)
      exact HK2.out

set_option maxRecDepth 100000 in
theorem or2_c {B : Nat} {x y : Int} (s : St W w (row B 0 [.int .i64 x, .int .i64 y] :: R)) (K : post (.returned (.int .i64 (orI x y))) w) : Calls Tryz.prog 154 #[.slice (some ⟨B, 0, none⟩) 2 2] w post := by
  unfold orI at K
  have c0 := s.rowCell (i := 0) rfl
  have c1 := s.rowCell (i := 1) rfl
  rw [Nat.zero_add] at c1
  by_cases h1 : x = 0
  · rw [if_neg (by simp [h1])] at K
    subst h1
    by_cases h2 : y = 0
    · subst h2
      have HK2 := hid K; clear K
      go_enter Tryz.func154, Tryz.ntmps154
      go_wp2_with fail
      go_loopw [8] (fun ii wr => ∃ i : Nat, i ≤ 2 ∧ ii = .int .i64 i ∧ wr = w) (fun ii _ => 2 - (intOf ii).toNat)
      case atStart => exact ⟨0, Nat.zero_le _, rfl, rfl⟩
      case round =>
        obtain ⟨i, hi, rfl, rfl⟩ := hrel
        have hcase : i = 0 ∨ i = 1 ∨ i = 2 := by omega
        rcases hcase with rfl | rfl | rfl
        · go_wp2_with fail
          go_roundw
          case rel => exact ⟨1, by omega, by go_num, by trivial⟩
          case measure => simp [intOf]
        · go_wp2_with fail
          go_roundw
          case rel => exact ⟨2, by omega, by go_num, by trivial⟩
          case measure => simp [intOf]
        · go_wp2_with fail
          exact HK2.out
    · have HK2 := hid K; clear K
      have hb : (y != 0) = true := by simp [h2]
      go_enter Tryz.func154, Tryz.ntmps154
      go_wp2_with fail
      go_loopw [8] (fun ii wr => ∃ i : Nat, i ≤ 1 ∧ ii = .int .i64 i ∧ wr = w) (fun ii _ => 2 - (intOf ii).toNat)
      case atStart => exact ⟨0, Nat.zero_le _, rfl, rfl⟩
      case round =>
        obtain ⟨i, hi, rfl, rfl⟩ := hrel
        have hcase : i = 0 ∨ i = 1 := by omega
        rcases hcase with rfl | rfl
        · go_wp2_with fail
          go_roundw
          case rel => exact ⟨1, by omega, by go_num, by trivial⟩
          case measure => simp [intOf]
        · go_wp2_with fail
          exact HK2.out
  · rw [if_pos h1] at K
    have HK2 := hid K; clear K
    have hb : (x != 0) = true := by simp [h1]
    go_enter Tryz.func154, Tryz.ntmps154
    go_wp2_with fail
    go_loopw [8] (fun ii wr => ii = .int .i64 0 ∧ wr = w) (fun ii _ => 2 - (intOf ii).toNat)
    case atStart => exact ⟨rfl, rfl⟩
    case round =>
      obtain ⟨rfl, rfl⟩ := hrel
      go_wp2_with fail
      exact HK2.out

set_option maxRecDepth 100000 in
set_option maxHeartbeats 4000000 in
theorem cmpS_c {c s d t : Int} (st : St W w R) (K : ∀ w', St W w' R → post (.returned (.int .i64 (cmpS c s d t))) w') :
    Calls Tryz.prog 100 #[.agg [Value.int .i64 c, .int .i64 s].toArray, .agg [Value.int .i64 d, .int .i64 t].toArray] w post := by
  have HK := hid K; clear K
  go_enter Tryz.func100, Tryz.ntmps100
  go_wp2_with (first
    | (refine wpl_boxA (vs := [Value.int .i64 c, .int .i64 s]) rfl (.tmp 0) rfl rfl st ?_; rintro T w1 s1)
    | (refine wpl_boxA (vs := [Value.int .i64 d, .int .i64 t]) rfl (.tmp 1) rfl rfl s1 ?_; rintro U w2 s2))
  have s3 := s2.drew
  have a0 := s3.rowCell (i := 0) rfl
  have a1 := s3.rowCell (i := 1) rfl
  have b0 := (St.pick 1 s3).rowCell (i := 0) rfl
  have b1 := (St.pick 1 s3).rowCell (i := 1) rfl
  rw [Nat.zero_add] at a1 b1
  obtain ⟨x, hx⟩ : ∃ x, cmpI c d = x := ⟨_, rfl⟩
  obtain ⟨y, hy⟩ : ∃ y, cmpI s t = y := ⟨_, rfl⟩
  have HE : Hid (cmpS c s d t = orI x y) := hid (by rw [← hx, ← hy]; rfl)
  have HX := hid hx; have HY := hid hy
  clear hx hy
  have s4 := s3.alloc #[.int .i64 x, .int .i64 y] 3
  have s5 := (s2.alloc #[.int .i64 x, .int .i64 y] 3).drew
  go_region_law (first
    | (go_simp; go_at_call 155; refine cmpI_c ?_; first | rw [HX.out] | rw [HY.out])
    | (go_simp; go_at_call 154; first | refine or2_c s4 ?_ | refine or2_c s5 ?_))
  all_goals
    go_wp2_with fail
    first
      | exact HE.out ▸ HK.out _ (s4.dropN 3)
      | exact HE.out ▸ HK.out _ (s5.dropN 3)

end
attribute [local go_sem ↓] execOp_ldAny

section
variable {W w : World} {R : List HP} {post : Ending → World → Prop}

theorem stL {T : Nat} {c s : Int} (h : St W w (row T 0 [.int .i64 c, .int .i64 s] :: R)) :
    (loadG 3 (.pointer (some ⟨T, 0, none⟩))).run Tryz.prog w = .ok (.int .i64 c) w ∧ (loadG 3 (.pointer (some ⟨T, 1, none⟩))).run Tryz.prog w = .ok (.int .i64 s) w := by
  have c0 := h.rowCell (i := 0) rfl
  have c1 := h.rowCell (i := 1) rfl
  rw [Nat.zero_add] at c1
  exact ⟨run_ldP (by kernel_rfl) c0, run_ldP (by kernel_rfl) c1⟩
theorem mkL {T : Nat} {m : MkV} (h : St W w (row T 0 m.cells :: R)) :
    (loadG 57 (.pointer (some ⟨T, 0, none⟩))).run Tryz.prog w = .ok (.agg [Value.int .i64 m.c, .int .i64 m.s].toArray) w ∧ (loadG 9 (.pointer (some ⟨T, 2, none⟩))).run Tryz.prog w = .ok (.string m.key) w := by
  have c2 := h.rowCell (i := 2) (v := .string m.key) rfl
  rw [Nat.zero_add] at c2
  exact ⟨run_loadG (o := 0) agg_st (vs := [.int .i64 m.c, .int .i64 m.s]) rfl (fun j u hu => by have := St.rowPart h 0 (xs := [.int .i64 m.c, .int .i64 m.s]) (ys := [.string m.key]) rfl j u hu; simpa using this), run_ldP (by kernel_rfl) c2⟩
theorem enL {T : Nat} {e : EnV} (h : St W w (row T 0 e.cells :: R)) :
    (loadG 9 (.pointer (some ⟨T, 0, none⟩))).run Tryz.prog w = .ok (.string e.key) w ∧ (loadG 9 (.pointer (some ⟨T, 1, none⟩))).run Tryz.prog w = .ok (.string e.val) w ∧ (loadG 4 (.pointer (some ⟨T, 2, none⟩))).run Tryz.prog w = .ok (.bool e.dead) w ∧
    (loadG 57 (.pointer (some ⟨T, 3, none⟩))).run Tryz.prog w = .ok (.agg [Value.int .i64 e.sc, .int .i64 e.ss].toArray) w ∧ (loadG 57 (.pointer (some ⟨T, 5, none⟩))).run Tryz.prog w = .ok (.agg [Value.int .i64 e.ac, .int .i64 e.az].toArray) w ∧
    (loadG 3 (.pointer (some ⟨T, 7, none⟩))).run Tryz.prog w = .ok (.int .i64 e.kp) w ∧ (loadG 3 (.pointer (some ⟨T, 8, none⟩))).run Tryz.prog w = .ok (.int .i64 e.age) w ∧
    (loadG 67 (.pointer (some ⟨T, 0, none⟩))).run Tryz.prog w = .ok (.agg e.cells.toArray) w := by
  have f : ∀ i v, e.cells[i]? = some v → w.cell? ⟨T, i, none⟩ = some v := fun i v hv => by have := h.rowCell hv; rwa [Nat.zero_add] at this
  refine ⟨run_ldP (by kernel_rfl) (f 0 _ rfl), run_ldP (by kernel_rfl) (f 1 _ rfl), run_ldP (by kernel_rfl) (f 2 _ rfl), ?_, ?_, run_ldP (by kernel_rfl) (f 7 _ rfl), run_ldP (by kernel_rfl) (f 8 _ rfl), run_loadG (o := 0) agg_en rfl h.rowAll⟩
  · exact run_loadG (o := 0 + 3) agg_st (vs := [.int .i64 e.sc, .int .i64 e.ss]) rfl (St.rowPart h 3 (xs := [.int .i64 e.sc, .int .i64 e.ss]) (ys := [.int .i64 e.ac, .int .i64 e.az, .int .i64 e.kp, .int .i64 e.age]) rfl)
  · exact run_loadG (o := 0 + 5) agg_st (vs := [.int .i64 e.ac, .int .i64 e.az]) rfl (St.rowPart h 5 (xs := [.int .i64 e.ac, .int .i64 e.az]) (ys := [.int .i64 e.kp, .int .i64 e.age]) rfl)

set_option maxRecDepth 100000 in
set_option maxHeartbeats 4000000 in
theorem stampGood_c {c s : Int} (st : St W w R) (K : ∀ w', St W w' R → post (.returned (.bool (stampB c s))) w') : Calls Tryz.prog 99 #[.agg [Value.int .i64 c, .int .i64 s].toArray] w post := by
  have HK := K; clear K
  unfold stampB at HK
  obtain ⟨b0, e0⟩ : ∃ b, decide (1 ≤ c) = b := ⟨_, rfl⟩
  obtain ⟨b1, e1⟩ : ∃ b, decide (c ≤ 4294967295) = b := ⟨_, rfl⟩
  obtain ⟨b2, e2⟩ : ∃ b, decide (0 ≤ s) = b := ⟨_, rfl⟩
  obtain ⟨b3, e3⟩ : ∃ b, decide (s < 12) = b := ⟨_, rfl⟩
  rw [e0, e1, e2, e3] at HK
  cases b0 with
  | false =>
    simp only [Bool.false_and] at HK
    have HK2 := hid HK; clear HK
    go_enter Tryz.func99, Tryz.ntmps99
    go_wp2_with (first
      | (refine wpl_boxA (vs := [Value.int .i64 c, .int .i64 s]) rfl (.tmp 0) rfl rfl st ?_; rintro T w1 s1; obtain ⟨c0, c1⟩ := stL s1)
      | fail)
    exact HK2.out _ (St.drop s1)
  | true =>
    cases b1 with
    | false =>
      simp only [Bool.true_and, Bool.false_and] at HK
      have HK2 := hid HK; clear HK
      go_enter Tryz.func99, Tryz.ntmps99
      go_wp2_with (first
        | (refine wpl_boxA (vs := [Value.int .i64 c, .int .i64 s]) rfl (.tmp 0) rfl rfl st ?_; rintro T w1 s1; obtain ⟨c0, c1⟩ := stL s1)
        | fail)
      exact HK2.out _ (St.drop s1)
    | true =>
      cases b2 with
      | false =>
        simp only [Bool.true_and, Bool.false_and] at HK
        have HK2 := hid HK; clear HK
        go_enter Tryz.func99, Tryz.ntmps99
        go_wp2_with (first
          | (refine wpl_boxA (vs := [Value.int .i64 c, .int .i64 s]) rfl (.tmp 0) rfl rfl st ?_; rintro T w1 s1; obtain ⟨c0, c1⟩ := stL s1)
          | fail)
        exact HK2.out _ (St.drop s1)
      | true =>
        cases b3 with
        | false =>
          simp only [Bool.true_and] at HK
          have HK2 := hid HK; clear HK
          go_enter Tryz.func99, Tryz.ntmps99
          go_wp2_with (first
            | (refine wpl_boxA (vs := [Value.int .i64 c, .int .i64 s]) rfl (.tmp 0) rfl rfl st ?_; rintro T w1 s1; obtain ⟨c0, c1⟩ := stL s1)
            | fail)
          exact HK2.out _ (St.drop s1)
        | true =>
          simp only [Bool.true_and] at HK
          have HK2 := hid HK; clear HK
          go_enter Tryz.func99, Tryz.ntmps99
          go_wp2_with (first
            | (refine wpl_boxA (vs := [Value.int .i64 c, .int .i64 s]) rfl (.tmp 0) rfl rfl st ?_; rintro T w1 s1; obtain ⟨c0, c1⟩ := stL s1)
            | fail)
          exact HK2.out _ (St.drop s1)

set_option maxRecDepth 100000 in
set_option maxHeartbeats 4000000 in
theorem goodMark_c {m : MkV} (st : St W w R) (K : ∀ w', St W w' R → post (.returned (.bool (markB m))) w') : Calls Tryz.prog 82 #[.agg m.cells.toArray] w post := by
  have HK := K; clear K
  unfold markB at HK
  obtain ⟨b0, e0⟩ : ∃ b, stampB m.c m.s = b := ⟨_, rfl⟩
  obtain ⟨b1, e1⟩ : ∃ b, decide (1 ≤ (m.key.size : Int)) = b := ⟨_, rfl⟩
  obtain ⟨b2, e2⟩ : ∃ b, decide ((m.key.size : Int) ≤ 16) = b := ⟨_, rfl⟩
  rw [e0, e1, e2] at HK
  cases b0 with
  | false =>
    simp only [Bool.false_and] at HK
    have HK2 := hid HK; clear HK
    go_enter Tryz.func82, Tryz.ntmps82
    go_wp2_with (first
      | (refine wpl_boxA (vs := m.cells) rfl (.tmp 0) rfl rfl st ?_; rintro T w0 s0; obtain ⟨c0, c1⟩ := mkL s0)
      | (go_at_call 99; refine stampGood_c s0 ?_; rintro w1 s1; rw [e0]; obtain ⟨c2, c3⟩ := mkL s1)
      | fail)
    exact HK2.out _ (St.drop s1)
  | true =>
    cases b1 with
    | false =>
      simp only [Bool.true_and, Bool.false_and] at HK
      have HK2 := hid HK; clear HK
      go_enter Tryz.func82, Tryz.ntmps82
      go_wp2_with (first
        | (refine wpl_boxA (vs := m.cells) rfl (.tmp 0) rfl rfl st ?_; rintro T w0 s0; obtain ⟨c0, c1⟩ := mkL s0)
        | (go_at_call 99; refine stampGood_c s0 ?_; rintro w1 s1; rw [e0]; obtain ⟨c2, c3⟩ := mkL s1)
        | fail)
      exact HK2.out _ (St.drop s1)
    | true =>
      cases b2 with
      | false =>
        simp only [Bool.true_and] at HK
        have HK2 := hid HK; clear HK
        go_enter Tryz.func82, Tryz.ntmps82
        go_wp2_with (first
          | (refine wpl_boxA (vs := m.cells) rfl (.tmp 0) rfl rfl st ?_; rintro T w0 s0; obtain ⟨c0, c1⟩ := mkL s0)
          | (go_at_call 99; refine stampGood_c s0 ?_; rintro w1 s1; rw [e0]; obtain ⟨c2, c3⟩ := mkL s1)
          | fail)
        exact HK2.out _ (St.drop s1)
      | true =>
        simp only [Bool.true_and] at HK
        have HK2 := hid HK; clear HK
        go_enter Tryz.func82, Tryz.ntmps82
        go_wp2_with (first
          | (refine wpl_boxA (vs := m.cells) rfl (.tmp 0) rfl rfl st ?_; rintro T w0 s0; obtain ⟨c0, c1⟩ := mkL s0)
          | (go_at_call 99; refine stampGood_c s0 ?_; rintro w1 s1; rw [e0]; obtain ⟨c2, c3⟩ := mkL s1)
          | fail)
        exact HK2.out _ (St.drop s1)

set_option maxRecDepth 100000 in
set_option maxHeartbeats 4000000 in
theorem kept_c {e : EnV} (st : St W w R) (K : ∀ w', St W w' R → post (.returned (.bool (keptB e))) w') : Calls Tryz.prog 102 #[.agg e.cells.toArray] w post := by
  have HK := K; clear K
  unfold keptB at HK
  obtain ⟨b0, e0⟩ : ∃ b, decide (1 ≤ e.kp) = b := ⟨_, rfl⟩
  obtain ⟨b1, e1⟩ : ∃ b, decide (e.kp ≤ 4095) = b := ⟨_, rfl⟩
  obtain ⟨b2, e2⟩ : ∃ b, decide (0 ≤ e.age) = b := ⟨_, rfl⟩
  obtain ⟨b3, e3⟩ : ∃ b, decide (e.age ≤ 2147483647) = b := ⟨_, rfl⟩
  rw [e0, e1, e2, e3] at HK
  cases b0 with
  | false =>
    simp only [Bool.false_and] at HK
    have HK2 := hid HK; clear HK
    go_enter Tryz.func102, Tryz.ntmps102
    go_wp2_with (first
      | (refine wpl_boxA (vs := e.cells) rfl (.tmp 0) rfl rfl st ?_; rintro T w1 s1; obtain ⟨c0, c1, c2, c3, c4, c5, c6, _⟩ := enL s1)
      | fail)
    exact HK2.out _ (St.drop s1)
  | true =>
    cases b1 with
    | false =>
      simp only [Bool.true_and, Bool.false_and] at HK
      have HK2 := hid HK; clear HK
      go_enter Tryz.func102, Tryz.ntmps102
      go_wp2_with (first
        | (refine wpl_boxA (vs := e.cells) rfl (.tmp 0) rfl rfl st ?_; rintro T w1 s1; obtain ⟨c0, c1, c2, c3, c4, c5, c6, _⟩ := enL s1)
        | fail)
      exact HK2.out _ (St.drop s1)
    | true =>
      cases b2 with
      | false =>
        simp only [Bool.true_and, Bool.false_and] at HK
        have HK2 := hid HK; clear HK
        go_enter Tryz.func102, Tryz.ntmps102
        go_wp2_with (first
          | (refine wpl_boxA (vs := e.cells) rfl (.tmp 0) rfl rfl st ?_; rintro T w1 s1; obtain ⟨c0, c1, c2, c3, c4, c5, c6, _⟩ := enL s1)
          | fail)
        exact HK2.out _ (St.drop s1)
      | true =>
        cases b3 with
        | false =>
          simp only [Bool.true_and] at HK
          have HK2 := hid HK; clear HK
          go_enter Tryz.func102, Tryz.ntmps102
          go_wp2_with (first
            | (refine wpl_boxA (vs := e.cells) rfl (.tmp 0) rfl rfl st ?_; rintro T w1 s1; obtain ⟨c0, c1, c2, c3, c4, c5, c6, _⟩ := enL s1)
            | fail)
          exact HK2.out _ (St.drop s1)
        | true =>
          simp only [Bool.true_and] at HK
          have HK2 := hid HK; clear HK
          go_enter Tryz.func102, Tryz.ntmps102
          go_wp2_with (first
            | (refine wpl_boxA (vs := e.cells) rfl (.tmp 0) rfl rfl st ?_; rintro T w1 s1; obtain ⟨c0, c1, c2, c3, c4, c5, c6, _⟩ := enL s1)
            | fail)
          exact HK2.out _ (St.drop s1)

set_option maxRecDepth 100000 in
set_option maxHeartbeats 4000000 in
theorem plain_c {e : EnV} (st : St W w R) (K : ∀ w', St W w' R → post (.returned (.bool (plainB e))) w') : Calls Tryz.prog 101 #[.agg e.cells.toArray] w post := by
  obtain ⟨key, val, dead, sc, ss, ac, az, kp, age⟩ := e
  unfold plainB at K
  dsimp only at K
  by_cases h0 : ac = sc
  · subst h0
    by_cases h1 : az = ss
    · subst h1
      simp only [decide_true, Bool.true_and] at K
      obtain ⟨b2, e2⟩ : ∃ b, (kp == 0) = b := ⟨_, rfl⟩
      obtain ⟨b3, e3⟩ : ∃ b, (age == 0) = b := ⟨_, rfl⟩
      rw [e2, e3] at K
      cases b2 with
      | false =>
        simp only [Bool.false_and] at K
        have HK2 := hid K; clear K
        go_enter Tryz.func101, Tryz.ntmps101
        go_wp2_with (first
          | (refine wpl_boxA (vs := EnV.cells ⟨key, val, dead, ac, az, ac, az, kp, age⟩) rfl (.tmp 0) rfl rfl st ?_; rintro T w1 s1; obtain ⟨c0, c1, c2, c3, c4, c5, c6, _⟩ := enL s1)
          | fail)
        exact HK2.out _ (St.drop s1)
      | true =>
        simp only [Bool.true_and] at K
        cases b3 with
        | false =>
          have HK2 := hid K; clear K
          go_enter Tryz.func101, Tryz.ntmps101
          go_wp2_with (first
            | (refine wpl_boxA (vs := EnV.cells ⟨key, val, dead, ac, az, ac, az, kp, age⟩) rfl (.tmp 0) rfl rfl st ?_; rintro T w1 s1; obtain ⟨c0, c1, c2, c3, c4, c5, c6, _⟩ := enL s1)
            | fail)
          exact HK2.out _ (St.drop s1)
        | true =>
          have HK2 := hid K; clear K
          go_enter Tryz.func101, Tryz.ntmps101
          go_wp2_with (first
            | (refine wpl_boxA (vs := EnV.cells ⟨key, val, dead, ac, az, ac, az, kp, age⟩) rfl (.tmp 0) rfl rfl st ?_; rintro T w1 s1; obtain ⟨c0, c1, c2, c3, c4, c5, c6, _⟩ := enL s1)
            | fail)
          exact HK2.out _ (St.drop s1)
    · rw [decide_eq_false h1] at K
      simp only [Bool.false_and, Bool.and_false] at K
      have HK2 := hid K; clear K
      go_enter Tryz.func101, Tryz.ntmps101
      go_wp2_with (first
        | (refine wpl_boxA (vs := EnV.cells ⟨key, val, dead, ac, ss, ac, az, kp, age⟩) rfl (.tmp 0) rfl rfl st ?_; rintro T w1 s1; obtain ⟨c0, c1, c2, c3, c4, c5, c6, _⟩ := enL s1)
        | fail)
      exact HK2.out _ (St.drop s1)
  · rw [decide_eq_false h0] at K
    simp only [Bool.false_and] at K
    have HK2 := hid K; clear K
    go_enter Tryz.func101, Tryz.ntmps101
    go_wp2_with (first
      | (refine wpl_boxA (vs := EnV.cells ⟨key, val, dead, sc, ss, ac, az, kp, age⟩) rfl (.tmp 0) rfl rfl st ?_; rintro T w1 s1; obtain ⟨c0, c1, c2, c3, c4, c5, c6, _⟩ := enL s1)
      | fail)
    exact HK2.out _ (St.drop s1)

end

end Go.Proofs.YtojfjbbggpfijaaGreatDoor
