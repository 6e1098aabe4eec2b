/- The document's counts, fields, Good of messages. Printed by mkRGoodC.py. -/
import Derived.Test.YtbpdchaeakihkaaGreatRGoodM
import Derived.Test.YtbpdchaeakihkaaGreatFewA
import Derived.Test.YtbpdchaeakihkaaGreatToB
import Derived.Deep.DeepCutAuto
namespace Go.Proofs.YtbpdchaeakihkaaGreat
open Go.RowKit Go.Qd
attribute [local go_sem ↓] execOp_ldAny

theorem loop_eq (bs : ByteArray) : ∀ (n i : Nat) (r : List UInt8), n = bs.size - i → ByteArray.toList.loop bs i r = r.reverse ++ bs.data.toList.drop i := by
  intro n
  induction n with
  | zero =>
    intro i r h
    unfold ByteArray.toList.loop
    have : ¬ i < bs.size := by omega
    rw [if_neg this]
    have : bs.data.toList.drop i = [] := List.drop_eq_nil_of_le (by show bs.data.toList.length ≤ i; simp; have : bs.size = bs.data.size := rfl; omega)
    rw [this]; simp
  | succ n ih =>
    intro i r h
    unfold ByteArray.toList.loop
    have hi : i < bs.size := by omega
    rw [if_pos hi, ih (i + 1) _ (by omega)]
    have hl : i < bs.data.toList.length := by have : bs.size = bs.data.size := rfl; rw [Array.length_toList]; omega
    rw [List.drop_eq_getElem_cons hl]
    simp
    show bs.get! i = _
    unfold ByteArray.get!
    simp [hi]
theorem bytes_toList (bs : ByteArray) : bs.toList = bs.data.toList := by
  unfold ByteArray.toList
  rw [loop_eq bs _ 0 [] rfl]; simp
theorem lenB_nil (b : ByteArray) : lenB b = !nilB b := by
  unfold lenB nilB
  rw [bytes_toList]
  have : b.size = b.data.toList.length := by rw [Array.length_toList]; rfl
  rw [this]
  cases b.data.toList with
  | nil => rfl
  | cons x l => simp

def cntB (m : MsgV) (k : Nat) : Bool := decide (loM k ≤ (m.mn : Int)) && (decide ((m.mn : Int) ≤ hiM k) && (decide (loE k ≤ (m.en : Int)) && (decide ((m.en : Int) ≤ hiE k) && decide ((m.pn : Int) ≤ 8))))
def fldA (m : MsgV) (k : Int) : Bool := (!hasB k 0 && ((m.peer != 0) || (m.hops != 0))) || ((!hasB k 2 && m.high) || (!hasB k 3 && decide (0 < m.pn)))
def fldC (m : MsgV) (k : Int) : Bool := (hasB k 4 || (m.number == 0)) && ((hasB k 5 || (m.sum == 0)) && (hasB k 6 || mzB m))
def fldB (m : MsgV) (k : Int) : Bool := !fldA m k && fldC m k

def eqRG (x y : Operand) (a b : Value) : Sem Value := do eqGuard .eql 71 x y a b; Go.binOp .eql 71 a b
def neRG (x y : Operand) (a b : Value) : Sem Value := do eqGuard .neq 71 x y a b; Go.binOp .neq 71 a b
theorem execOp_eqR (ρ : Operand → Value) (dst : Option Tmp) (x y : Operand) (r : TypeId) (ty : TypeId) (pos : String) (after : Array Edge) (guard : Option (Nat × Bool)) :
    execOp ρ { dst, op := .binOp .eql 71 x y r, type := ty, pos, after, guard } = (do pure (.value (← eqRG x y (ρ x) (ρ y)))) := by simp [execOp, eqRG]
theorem execOp_neR (ρ : Operand → Value) (dst : Option Tmp) (x y : Operand) (r : TypeId) (ty : TypeId) (pos : String) (after : Array Edge) (guard : Option (Nat × Bool)) :
    execOp ρ { dst, op := .binOp .neq 71 x y r, type := ty, pos, after, guard } = (do pure (.value (← neRG x y (ρ x) (ρ y)))) := by simp [execOp, neRG]
theorem run_eqR (x y : Operand) (m : MsgV) (w : World) : (eqRG x y (.agg #[.int .i64 m.mc, .int .i64 m.ms, .string m.key]) (.agg #[.int .i64 0, .int .i64 0, .string ByteArray.empty])).run Tryz.prog w = .ok (.bool (mzB m)) w := by
  unfold eqRG mzB
  go_simp
  by_cases h1 : m.mc = 0
  · by_cases h2 : m.ms = 0
    · by_cases h3 : m.key.toList = []
      · simp [h1, h2, h3]
      · simp [h1, h2, h3]
    · simp [h1, h2]
  · simp [h1]
theorem run_neR (x y : Operand) (m : MsgV) (w : World) : (neRG x y (.agg #[.int .i64 m.mc, .int .i64 m.ms, .string m.key]) (.agg #[.int .i64 0, .int .i64 0, .string ByteArray.empty])).run Tryz.prog w = .ok (.bool (!mzB m)) w := by
  unfold neRG mzB
  go_simp
  by_cases h1 : m.mc = 0
  · by_cases h2 : m.ms = 0
    · by_cases h3 : m.key.toList = []
      · simp [h1, h2, h3]
      · simp [h1, h2, h3]
    · simp [h1, h2]
  · simp [h1]
def b71G : Sem Value := Instr.build 71 #[]
theorem execOp_b71 (ρ : Operand → Value) (dst : Option Tmp) (ty : TypeId) (pos : String) (after : Array Edge) (guard : Option (Nat × Bool)) :
    execOp ρ { dst, op := .build 71 #[], type := ty, pos, after, guard } = (do pure (.value (← b71G))) := by simp [execOp, b71G]
theorem run_b71 (w : World) : b71G.run Tryz.prog w = .ok (.agg #[.int .i64 0, .int .i64 0, .string ByteArray.empty]) w := by kernel_rfl
attribute [local go_sem ↓] execOp_eqR execOp_neR execOp_b71
attribute [local go_sem] run_eqR run_neR run_b71

section
variable {W w : World} {R : List HP} {post : Ending → World → Prop} {m : MsgV} {k : Nat}

/-- All the loads of a message. -/
theorem msgAll {T : Nat} (hk : m.kind = k) (s : St W w (row T 0 m.cells :: R)) :
    ((loadG 3 (.pointer (some ⟨T, 0, none⟩))).run Tryz.prog w = .ok (.int .i64 k) w ∧ (loadG 3 (.pointer (some ⟨T, 1, none⟩))).run Tryz.prog w = .ok (.int .i64 m.peer) w ∧ (loadG 3 (.pointer (some ⟨T, 2, none⟩))).run Tryz.prog w = .ok (.int .i64 m.hops) w ∧
    (loadG 4 (.pointer (some ⟨T, 3, none⟩))).run Tryz.prog w = .ok (.bool m.high) w ∧ (loadG 24 (.pointer (some ⟨T, 4, none⟩))).run Tryz.prog w = .ok (.slice m.pa m.pn m.pc) w ∧ (loadG 3 (.pointer (some ⟨T, 5, none⟩))).run Tryz.prog w = .ok (.int .i64 m.number) w ∧
    (loadG 50 (.pointer (some ⟨T, 6, none⟩))).run Tryz.prog w = .ok (.int .u64 m.sum) w ∧ (loadG 71 (.pointer (some ⟨T, 7, none⟩))).run Tryz.prog w = .ok (.agg #[.int .i64 m.mc, .int .i64 m.ms, .string m.key]) w) ∧
    (loadG 72 (.pointer (some ⟨T, 10, none⟩))).run Tryz.prog w = .ok (.slice m.ma m.mn m.mq) w ∧ (loadG 73 (.pointer (some ⟨T, 11, none⟩))).run Tryz.prog w = .ok (.slice m.ea m.en m.eq) w ∧
    (loadG 75 (.pointer (some ⟨T, 0, none⟩))).run Tryz.prog w = .ok (.agg m.cells.toArray) w := by
  obtain ⟨a0, a⟩ := msgR s
  exact ⟨⟨hk ▸ a0, a⟩, (msgS s).1, (msgS s).2, run_loadG (o := 0) (aggRM) rfl s.rowAll⟩

set_option maxRecDepth 100000 in
set_option maxHeartbeats 8000000 in
theorem counts_c (h1 : 1 ≤ k) (h2 : k < 20) (hk : m.kind = k) (st : St W w R) (K : ∀ w', St W w' R → post (.returned (.bool (cntB m k))) w') : Calls Tryz.prog 62 #[.agg m.cells.toArray] w post := by
  have HK := K; clear K
  replace h1 := hid h1; replace h2 := hid h2
  unfold cntB at HK
  obtain ⟨b0, e0⟩ : ∃ b, decide (loM k ≤ (m.mn : Int)) = b := ⟨_, rfl⟩
  obtain ⟨b1, e1⟩ : ∃ b, decide ((m.mn : Int) ≤ hiM k) = b := ⟨_, rfl⟩
  obtain ⟨b2, e2⟩ : ∃ b, decide (loE k ≤ (m.en : Int)) = b := ⟨_, rfl⟩
  obtain ⟨b3, e3⟩ : ∃ b, decide ((m.en : Int) ≤ hiE k) = b := ⟨_, rfl⟩
  obtain ⟨b4, e4⟩ : ∃ b, decide ((m.pn : Int) ≤ 8) = b := ⟨_, rfl⟩
  rw [e0, e1, e2, e3, e4] at HK
  cases b0 with
  | false =>
    simp only [Bool.false_and] at HK
    have HK2 := hid HK; clear HK
    go_enter Tryz.func62, Tryz.ntmps62
    go_wp2_with (first
      | (refine wpl_boxA (vs := m.cells) rfl (.tmp 0) rfl rfl st ?_; rintro T w1 s; obtain ⟨⟨c0, c1, c2, c3, c4, c5, c6, c7⟩, c8, c9, cT⟩ := msgAll hk s)
      | (go_at_call 107; first
          | (have sM0 := sM; refine many8_c h1.out h2.out sM ?_; clear c0 c1 c2 c3 c4 c5 c6 c7 c8 c9 cT s; rintro w1 s; obtain ⟨⟨c0, c1, c2, c3, c4, c5, c6, c7⟩, c8, c9, cT⟩ := msgAll hk s)
          | (refine many7_c h1.out h2.out s ?_; clear c0 c1 c2 c3 c4 c5 c6 c7 c8 c9 cT s; rintro w1 s; have sM := s; obtain ⟨⟨c0, c1, c2, c3, c4, c5, c6, c7⟩, c8, c9, cT⟩ := msgAll hk s)))
    exact HK2.out _ (St.drop s)
  | true =>
    cases b1 with
    | false =>
      simp only [Bool.true_and, Bool.false_and] at HK
      have HK2 := hid HK; clear HK
      go_enter Tryz.func62, Tryz.ntmps62
      go_wp2_with (first
        | (refine wpl_boxA (vs := m.cells) rfl (.tmp 0) rfl rfl st ?_; rintro T w1 s; obtain ⟨⟨c0, c1, c2, c3, c4, c5, c6, c7⟩, c8, c9, cT⟩ := msgAll hk s)
        | (go_at_call 107; first
            | (have sM0 := sM; refine many8_c h1.out h2.out sM ?_; clear c0 c1 c2 c3 c4 c5 c6 c7 c8 c9 cT s; rintro w1 s; obtain ⟨⟨c0, c1, c2, c3, c4, c5, c6, c7⟩, c8, c9, cT⟩ := msgAll hk s)
            | (refine many7_c h1.out h2.out s ?_; clear c0 c1 c2 c3 c4 c5 c6 c7 c8 c9 cT s; rintro w1 s; have sM := s; obtain ⟨⟨c0, c1, c2, c3, c4, c5, c6, c7⟩, c8, c9, cT⟩ := msgAll hk s)))
      exact HK2.out _ (St.drop s)
    | true =>
      cases b2 with
      | false =>
        simp only [Bool.true_and, Bool.false_and] at HK
        have HK2 := hid HK; clear HK
        go_enter Tryz.func62, Tryz.ntmps62
        go_wp2_with (first
          | (refine wpl_boxA (vs := m.cells) rfl (.tmp 0) rfl rfl st ?_; rintro T w1 s; obtain ⟨⟨c0, c1, c2, c3, c4, c5, c6, c7⟩, c8, c9, cT⟩ := msgAll hk s)
          | (go_at_call 107; first
              | (have sM0 := sM; refine many8_c h1.out h2.out sM ?_; clear c0 c1 c2 c3 c4 c5 c6 c7 c8 c9 cT s; rintro w1 s; obtain ⟨⟨c0, c1, c2, c3, c4, c5, c6, c7⟩, c8, c9, cT⟩ := msgAll hk s)
              | (refine many7_c h1.out h2.out s ?_; clear c0 c1 c2 c3 c4 c5 c6 c7 c8 c9 cT s; rintro w1 s; have sM := s; obtain ⟨⟨c0, c1, c2, c3, c4, c5, c6, c7⟩, c8, c9, cT⟩ := msgAll hk s)))
        exact HK2.out _ (St.drop s)
      | true =>
        cases b3 with
        | false =>
          simp only [Bool.true_and, Bool.false_and] at HK
          have HK2 := hid HK; clear HK
          go_enter Tryz.func62, Tryz.ntmps62
          go_wp2_with (first
            | (refine wpl_boxA (vs := m.cells) rfl (.tmp 0) rfl rfl st ?_; rintro T w1 s; obtain ⟨⟨c0, c1, c2, c3, c4, c5, c6, c7⟩, c8, c9, cT⟩ := msgAll hk s)
            | (go_at_call 107; first
                | (have sM0 := sM; refine many8_c h1.out h2.out sM ?_; clear c0 c1 c2 c3 c4 c5 c6 c7 c8 c9 cT s; rintro w1 s; obtain ⟨⟨c0, c1, c2, c3, c4, c5, c6, c7⟩, c8, c9, cT⟩ := msgAll hk s)
                | (refine many7_c h1.out h2.out s ?_; clear c0 c1 c2 c3 c4 c5 c6 c7 c8 c9 cT s; rintro w1 s; have sM := s; obtain ⟨⟨c0, c1, c2, c3, c4, c5, c6, c7⟩, c8, c9, cT⟩ := msgAll hk s)))
          exact HK2.out _ (St.drop s)
        | true =>
          cases b4 with
          | false =>
            simp only [Bool.true_and] at HK
            have HK2 := hid HK; clear HK
            go_enter Tryz.func62, Tryz.ntmps62
            go_wp2_with (first
              | (refine wpl_boxA (vs := m.cells) rfl (.tmp 0) rfl rfl st ?_; rintro T w1 s; obtain ⟨⟨c0, c1, c2, c3, c4, c5, c6, c7⟩, c8, c9, cT⟩ := msgAll hk s)
              | (go_at_call 107; first
                  | (have sM0 := sM; refine many8_c h1.out h2.out sM ?_; clear c0 c1 c2 c3 c4 c5 c6 c7 c8 c9 cT s; rintro w1 s; obtain ⟨⟨c0, c1, c2, c3, c4, c5, c6, c7⟩, c8, c9, cT⟩ := msgAll hk s)
                  | (refine many7_c h1.out h2.out s ?_; clear c0 c1 c2 c3 c4 c5 c6 c7 c8 c9 cT s; rintro w1 s; have sM := s; obtain ⟨⟨c0, c1, c2, c3, c4, c5, c6, c7⟩, c8, c9, cT⟩ := msgAll hk s)))
            exact HK2.out _ (St.drop s)
          | true =>
            simp only [Bool.true_and] at HK
            have HK2 := hid HK; clear HK
            go_enter Tryz.func62, Tryz.ntmps62
            go_wp2_with (first
              | (refine wpl_boxA (vs := m.cells) rfl (.tmp 0) rfl rfl st ?_; rintro T w1 s; obtain ⟨⟨c0, c1, c2, c3, c4, c5, c6, c7⟩, c8, c9, cT⟩ := msgAll hk s)
              | (go_at_call 107; first
                  | (have sM0 := sM; refine many8_c h1.out h2.out sM ?_; clear c0 c1 c2 c3 c4 c5 c6 c7 c8 c9 cT s; rintro w1 s; obtain ⟨⟨c0, c1, c2, c3, c4, c5, c6, c7⟩, c8, c9, cT⟩ := msgAll hk s)
                  | (refine many7_c h1.out h2.out s ?_; clear c0 c1 c2 c3 c4 c5 c6 c7 c8 c9 cT s; rintro w1 s; have sM := s; obtain ⟨⟨c0, c1, c2, c3, c4, c5, c6, c7⟩, c8, c9, cT⟩ := msgAll hk s)))
            exact HK2.out _ (St.drop s)

set_option maxRecDepth 100000 in
set_option maxHeartbeats 16000000 in
theorem fields_c (hk : m.kind = k) (st : St W w R) (K : ∀ w', St W w' R → post (.returned (.bool (fldB m k))) w') : Calls Tryz.prog 63 #[.agg m.cells.toArray] w post := by
  unfold fldB fldA fldC at K
  obtain ⟨h0, e0⟩ : ∃ b, hasB k 0 = b := ⟨_, rfl⟩
  obtain ⟨h2, e2⟩ : ∃ b, hasB k 2 = b := ⟨_, rfl⟩
  obtain ⟨h3, e3⟩ : ∃ b, hasB k 3 = b := ⟨_, rfl⟩
  obtain ⟨h4, e4⟩ : ∃ b, hasB k 4 = b := ⟨_, rfl⟩
  obtain ⟨h5, e5⟩ : ∃ b, hasB k 5 = b := ⟨_, rfl⟩
  obtain ⟨h6, e6⟩ : ∃ b, hasB k 6 = b := ⟨_, rfl⟩
  obtain ⟨p1, q1⟩ : ∃ b, (m.peer != 0) = b := ⟨_, rfl⟩
  obtain ⟨p2, q2⟩ : ∃ b, (m.hops != 0) = b := ⟨_, rfl⟩
  obtain ⟨p3, q3⟩ : ∃ b, m.high = b := ⟨_, rfl⟩
  obtain ⟨p4, q4⟩ : ∃ b, decide (0 < m.pn) = b := ⟨_, rfl⟩
  obtain ⟨p5, q5⟩ : ∃ b, (m.number == 0) = b := ⟨_, rfl⟩
  obtain ⟨p6, q6⟩ : ∃ b, (m.sum == 0) = b := ⟨_, rfl⟩
  obtain ⟨p7, q7⟩ : ∃ b, mzB m = b := ⟨_, rfl⟩
  rw [e0, e2, e3, e4, e5, e6, q1, q2, q3, q4, q5, q6, q7] at K
  have H0 := hid e0; have H2 := hid e2; have H3 := hid e3; have H4 := hid e4; have H5 := hid e5; have H6 := hid e6
  have HK := hid K; clear K
  clear e0 e2 e3 e4 e5 e6
  go_enter Tryz.func63, Tryz.ntmps63
  go_upto_region 2 with (refine wpl_boxA (vs := m.cells) rfl (.tmp 0) rfl rfl st ?_; rintro T w1 s; obtain ⟨⟨c0, c1, c2, c3, c4, c5, c6, c7⟩, c8, c9, cT⟩ := msgAll hk s)
  go_cut [38] (fun x wx => x = .bool ((!h0 && (p1 || p2)) || ((!h2 && p3) || (!h3 && p4))) ∧ St W wx (row T 0 m.cells :: R))
  case first =>
    cases h0 with
    | true =>
      cases h2 with
      | true =>
        cases h3 with
        | true =>
          go_wp2_with (go_at_call 108; first
            | (have sB0 := sB; refine rhas_c (f := 3) (by decide) s ?_; rw [H3.out]; clear c0 c1 c2 c3 c4 c5 c6 c7 c8 c9 cT s; rintro w1 s; obtain ⟨⟨c0, c1, c2, c3, c4, c5, c6, c7⟩, c8, c9, cT⟩ := msgAll hk s; have sC := s)
            | (have sA0 := sA; refine rhas_c (f := 2) (by decide) s ?_; rw [H2.out]; clear c0 c1 c2 c3 c4 c5 c6 c7 c8 c9 cT s; rintro w1 s; obtain ⟨⟨c0, c1, c2, c3, c4, c5, c6, c7⟩, c8, c9, cT⟩ := msgAll hk s; have sB := s)
            | (refine rhas_c (f := 0) (by decide) s ?_; rw [H0.out]; clear c0 c1 c2 c3 c4 c5 c6 c7 c8 c9 cT s; rintro w1 s; obtain ⟨⟨c0, c1, c2, c3, c4, c5, c6, c7⟩, c8, c9, cT⟩ := msgAll hk s; have sA := s))
          go_meet
          case rel => exact ⟨rfl, s⟩
        | false =>
          cases p4 with
          | true =>
            go_wp2_with (go_at_call 108; first
              | (have sB0 := sB; refine rhas_c (f := 3) (by decide) s ?_; rw [H3.out]; clear c0 c1 c2 c3 c4 c5 c6 c7 c8 c9 cT s; rintro w1 s; obtain ⟨⟨c0, c1, c2, c3, c4, c5, c6, c7⟩, c8, c9, cT⟩ := msgAll hk s; have sC := s)
              | (have sA0 := sA; refine rhas_c (f := 2) (by decide) s ?_; rw [H2.out]; clear c0 c1 c2 c3 c4 c5 c6 c7 c8 c9 cT s; rintro w1 s; obtain ⟨⟨c0, c1, c2, c3, c4, c5, c6, c7⟩, c8, c9, cT⟩ := msgAll hk s; have sB := s)
              | (refine rhas_c (f := 0) (by decide) s ?_; rw [H0.out]; clear c0 c1 c2 c3 c4 c5 c6 c7 c8 c9 cT s; rintro w1 s; obtain ⟨⟨c0, c1, c2, c3, c4, c5, c6, c7⟩, c8, c9, cT⟩ := msgAll hk s; have sA := s))
            go_meet
            case rel => exact ⟨rfl, s⟩
          | false =>
            go_wp2_with (go_at_call 108; first
              | (have sB0 := sB; refine rhas_c (f := 3) (by decide) s ?_; rw [H3.out]; clear c0 c1 c2 c3 c4 c5 c6 c7 c8 c9 cT s; rintro w1 s; obtain ⟨⟨c0, c1, c2, c3, c4, c5, c6, c7⟩, c8, c9, cT⟩ := msgAll hk s; have sC := s)
              | (have sA0 := sA; refine rhas_c (f := 2) (by decide) s ?_; rw [H2.out]; clear c0 c1 c2 c3 c4 c5 c6 c7 c8 c9 cT s; rintro w1 s; obtain ⟨⟨c0, c1, c2, c3, c4, c5, c6, c7⟩, c8, c9, cT⟩ := msgAll hk s; have sB := s)
              | (refine rhas_c (f := 0) (by decide) s ?_; rw [H0.out]; clear c0 c1 c2 c3 c4 c5 c6 c7 c8 c9 cT s; rintro w1 s; obtain ⟨⟨c0, c1, c2, c3, c4, c5, c6, c7⟩, c8, c9, cT⟩ := msgAll hk s; have sA := s))
            go_meet
            case rel => exact ⟨rfl, s⟩
      | false =>
        cases p3 with
        | true =>
          go_wp2_with (go_at_call 108; first
            | (have sB0 := sB; refine rhas_c (f := 3) (by decide) s ?_; rw [H3.out]; clear c0 c1 c2 c3 c4 c5 c6 c7 c8 c9 cT s; rintro w1 s; obtain ⟨⟨c0, c1, c2, c3, c4, c5, c6, c7⟩, c8, c9, cT⟩ := msgAll hk s; have sC := s)
            | (have sA0 := sA; refine rhas_c (f := 2) (by decide) s ?_; rw [H2.out]; clear c0 c1 c2 c3 c4 c5 c6 c7 c8 c9 cT s; rintro w1 s; obtain ⟨⟨c0, c1, c2, c3, c4, c5, c6, c7⟩, c8, c9, cT⟩ := msgAll hk s; have sB := s)
            | (refine rhas_c (f := 0) (by decide) s ?_; rw [H0.out]; clear c0 c1 c2 c3 c4 c5 c6 c7 c8 c9 cT s; rintro w1 s; obtain ⟨⟨c0, c1, c2, c3, c4, c5, c6, c7⟩, c8, c9, cT⟩ := msgAll hk s; have sA := s))
          go_meet
          case rel => exact ⟨rfl, s⟩
        | false =>
          cases h3 with
          | true =>
            go_wp2_with (go_at_call 108; first
              | (have sB0 := sB; refine rhas_c (f := 3) (by decide) s ?_; rw [H3.out]; clear c0 c1 c2 c3 c4 c5 c6 c7 c8 c9 cT s; rintro w1 s; obtain ⟨⟨c0, c1, c2, c3, c4, c5, c6, c7⟩, c8, c9, cT⟩ := msgAll hk s; have sC := s)
              | (have sA0 := sA; refine rhas_c (f := 2) (by decide) s ?_; rw [H2.out]; clear c0 c1 c2 c3 c4 c5 c6 c7 c8 c9 cT s; rintro w1 s; obtain ⟨⟨c0, c1, c2, c3, c4, c5, c6, c7⟩, c8, c9, cT⟩ := msgAll hk s; have sB := s)
              | (refine rhas_c (f := 0) (by decide) s ?_; rw [H0.out]; clear c0 c1 c2 c3 c4 c5 c6 c7 c8 c9 cT s; rintro w1 s; obtain ⟨⟨c0, c1, c2, c3, c4, c5, c6, c7⟩, c8, c9, cT⟩ := msgAll hk s; have sA := s))
            go_meet
            case rel => exact ⟨rfl, s⟩
          | false =>
            cases p4 with
            | true =>
              go_wp2_with (go_at_call 108; first
                | (have sB0 := sB; refine rhas_c (f := 3) (by decide) s ?_; rw [H3.out]; clear c0 c1 c2 c3 c4 c5 c6 c7 c8 c9 cT s; rintro w1 s; obtain ⟨⟨c0, c1, c2, c3, c4, c5, c6, c7⟩, c8, c9, cT⟩ := msgAll hk s; have sC := s)
                | (have sA0 := sA; refine rhas_c (f := 2) (by decide) s ?_; rw [H2.out]; clear c0 c1 c2 c3 c4 c5 c6 c7 c8 c9 cT s; rintro w1 s; obtain ⟨⟨c0, c1, c2, c3, c4, c5, c6, c7⟩, c8, c9, cT⟩ := msgAll hk s; have sB := s)
                | (refine rhas_c (f := 0) (by decide) s ?_; rw [H0.out]; clear c0 c1 c2 c3 c4 c5 c6 c7 c8 c9 cT s; rintro w1 s; obtain ⟨⟨c0, c1, c2, c3, c4, c5, c6, c7⟩, c8, c9, cT⟩ := msgAll hk s; have sA := s))
              go_meet
              case rel => exact ⟨rfl, s⟩
            | false =>
              go_wp2_with (go_at_call 108; first
                | (have sB0 := sB; refine rhas_c (f := 3) (by decide) s ?_; rw [H3.out]; clear c0 c1 c2 c3 c4 c5 c6 c7 c8 c9 cT s; rintro w1 s; obtain ⟨⟨c0, c1, c2, c3, c4, c5, c6, c7⟩, c8, c9, cT⟩ := msgAll hk s; have sC := s)
                | (have sA0 := sA; refine rhas_c (f := 2) (by decide) s ?_; rw [H2.out]; clear c0 c1 c2 c3 c4 c5 c6 c7 c8 c9 cT s; rintro w1 s; obtain ⟨⟨c0, c1, c2, c3, c4, c5, c6, c7⟩, c8, c9, cT⟩ := msgAll hk s; have sB := s)
                | (refine rhas_c (f := 0) (by decide) s ?_; rw [H0.out]; clear c0 c1 c2 c3 c4 c5 c6 c7 c8 c9 cT s; rintro w1 s; obtain ⟨⟨c0, c1, c2, c3, c4, c5, c6, c7⟩, c8, c9, cT⟩ := msgAll hk s; have sA := s))
              go_meet
              case rel => exact ⟨rfl, s⟩
    | false =>
      cases p1 with
      | true =>
        go_wp2_with (go_at_call 108; first
          | (have sB0 := sB; refine rhas_c (f := 3) (by decide) s ?_; rw [H3.out]; clear c0 c1 c2 c3 c4 c5 c6 c7 c8 c9 cT s; rintro w1 s; obtain ⟨⟨c0, c1, c2, c3, c4, c5, c6, c7⟩, c8, c9, cT⟩ := msgAll hk s; have sC := s)
          | (have sA0 := sA; refine rhas_c (f := 2) (by decide) s ?_; rw [H2.out]; clear c0 c1 c2 c3 c4 c5 c6 c7 c8 c9 cT s; rintro w1 s; obtain ⟨⟨c0, c1, c2, c3, c4, c5, c6, c7⟩, c8, c9, cT⟩ := msgAll hk s; have sB := s)
          | (refine rhas_c (f := 0) (by decide) s ?_; rw [H0.out]; clear c0 c1 c2 c3 c4 c5 c6 c7 c8 c9 cT s; rintro w1 s; obtain ⟨⟨c0, c1, c2, c3, c4, c5, c6, c7⟩, c8, c9, cT⟩ := msgAll hk s; have sA := s))
        go_meet
        case rel => exact ⟨rfl, s⟩
      | false =>
        cases p2 with
        | true =>
          go_wp2_with (go_at_call 108; first
            | (have sB0 := sB; refine rhas_c (f := 3) (by decide) s ?_; rw [H3.out]; clear c0 c1 c2 c3 c4 c5 c6 c7 c8 c9 cT s; rintro w1 s; obtain ⟨⟨c0, c1, c2, c3, c4, c5, c6, c7⟩, c8, c9, cT⟩ := msgAll hk s; have sC := s)
            | (have sA0 := sA; refine rhas_c (f := 2) (by decide) s ?_; rw [H2.out]; clear c0 c1 c2 c3 c4 c5 c6 c7 c8 c9 cT s; rintro w1 s; obtain ⟨⟨c0, c1, c2, c3, c4, c5, c6, c7⟩, c8, c9, cT⟩ := msgAll hk s; have sB := s)
            | (refine rhas_c (f := 0) (by decide) s ?_; rw [H0.out]; clear c0 c1 c2 c3 c4 c5 c6 c7 c8 c9 cT s; rintro w1 s; obtain ⟨⟨c0, c1, c2, c3, c4, c5, c6, c7⟩, c8, c9, cT⟩ := msgAll hk s; have sA := s))
          go_meet
          case rel => exact ⟨rfl, s⟩
        | false =>
          cases h2 with
          | true =>
            cases h3 with
            | true =>
              go_wp2_with (go_at_call 108; first
                | (have sB0 := sB; refine rhas_c (f := 3) (by decide) s ?_; rw [H3.out]; clear c0 c1 c2 c3 c4 c5 c6 c7 c8 c9 cT s; rintro w1 s; obtain ⟨⟨c0, c1, c2, c3, c4, c5, c6, c7⟩, c8, c9, cT⟩ := msgAll hk s; have sC := s)
                | (have sA0 := sA; refine rhas_c (f := 2) (by decide) s ?_; rw [H2.out]; clear c0 c1 c2 c3 c4 c5 c6 c7 c8 c9 cT s; rintro w1 s; obtain ⟨⟨c0, c1, c2, c3, c4, c5, c6, c7⟩, c8, c9, cT⟩ := msgAll hk s; have sB := s)
                | (refine rhas_c (f := 0) (by decide) s ?_; rw [H0.out]; clear c0 c1 c2 c3 c4 c5 c6 c7 c8 c9 cT s; rintro w1 s; obtain ⟨⟨c0, c1, c2, c3, c4, c5, c6, c7⟩, c8, c9, cT⟩ := msgAll hk s; have sA := s))
              go_meet
              case rel => exact ⟨rfl, s⟩
            | false =>
              cases p4 with
              | true =>
                go_wp2_with (go_at_call 108; first
                  | (have sB0 := sB; refine rhas_c (f := 3) (by decide) s ?_; rw [H3.out]; clear c0 c1 c2 c3 c4 c5 c6 c7 c8 c9 cT s; rintro w1 s; obtain ⟨⟨c0, c1, c2, c3, c4, c5, c6, c7⟩, c8, c9, cT⟩ := msgAll hk s; have sC := s)
                  | (have sA0 := sA; refine rhas_c (f := 2) (by decide) s ?_; rw [H2.out]; clear c0 c1 c2 c3 c4 c5 c6 c7 c8 c9 cT s; rintro w1 s; obtain ⟨⟨c0, c1, c2, c3, c4, c5, c6, c7⟩, c8, c9, cT⟩ := msgAll hk s; have sB := s)
                  | (refine rhas_c (f := 0) (by decide) s ?_; rw [H0.out]; clear c0 c1 c2 c3 c4 c5 c6 c7 c8 c9 cT s; rintro w1 s; obtain ⟨⟨c0, c1, c2, c3, c4, c5, c6, c7⟩, c8, c9, cT⟩ := msgAll hk s; have sA := s))
                go_meet
                case rel => exact ⟨rfl, s⟩
              | false =>
                go_wp2_with (go_at_call 108; first
                  | (have sB0 := sB; refine rhas_c (f := 3) (by decide) s ?_; rw [H3.out]; clear c0 c1 c2 c3 c4 c5 c6 c7 c8 c9 cT s; rintro w1 s; obtain ⟨⟨c0, c1, c2, c3, c4, c5, c6, c7⟩, c8, c9, cT⟩ := msgAll hk s; have sC := s)
                  | (have sA0 := sA; refine rhas_c (f := 2) (by decide) s ?_; rw [H2.out]; clear c0 c1 c2 c3 c4 c5 c6 c7 c8 c9 cT s; rintro w1 s; obtain ⟨⟨c0, c1, c2, c3, c4, c5, c6, c7⟩, c8, c9, cT⟩ := msgAll hk s; have sB := s)
                  | (refine rhas_c (f := 0) (by decide) s ?_; rw [H0.out]; clear c0 c1 c2 c3 c4 c5 c6 c7 c8 c9 cT s; rintro w1 s; obtain ⟨⟨c0, c1, c2, c3, c4, c5, c6, c7⟩, c8, c9, cT⟩ := msgAll hk s; have sA := s))
                go_meet
                case rel => exact ⟨rfl, s⟩
          | false =>
            cases p3 with
            | true =>
              go_wp2_with (go_at_call 108; first
                | (have sB0 := sB; refine rhas_c (f := 3) (by decide) s ?_; rw [H3.out]; clear c0 c1 c2 c3 c4 c5 c6 c7 c8 c9 cT s; rintro w1 s; obtain ⟨⟨c0, c1, c2, c3, c4, c5, c6, c7⟩, c8, c9, cT⟩ := msgAll hk s; have sC := s)
                | (have sA0 := sA; refine rhas_c (f := 2) (by decide) s ?_; rw [H2.out]; clear c0 c1 c2 c3 c4 c5 c6 c7 c8 c9 cT s; rintro w1 s; obtain ⟨⟨c0, c1, c2, c3, c4, c5, c6, c7⟩, c8, c9, cT⟩ := msgAll hk s; have sB := s)
                | (refine rhas_c (f := 0) (by decide) s ?_; rw [H0.out]; clear c0 c1 c2 c3 c4 c5 c6 c7 c8 c9 cT s; rintro w1 s; obtain ⟨⟨c0, c1, c2, c3, c4, c5, c6, c7⟩, c8, c9, cT⟩ := msgAll hk s; have sA := s))
              go_meet
              case rel => exact ⟨rfl, s⟩
            | false =>
              cases h3 with
              | true =>
                go_wp2_with (go_at_call 108; first
                  | (have sB0 := sB; refine rhas_c (f := 3) (by decide) s ?_; rw [H3.out]; clear c0 c1 c2 c3 c4 c5 c6 c7 c8 c9 cT s; rintro w1 s; obtain ⟨⟨c0, c1, c2, c3, c4, c5, c6, c7⟩, c8, c9, cT⟩ := msgAll hk s; have sC := s)
                  | (have sA0 := sA; refine rhas_c (f := 2) (by decide) s ?_; rw [H2.out]; clear c0 c1 c2 c3 c4 c5 c6 c7 c8 c9 cT s; rintro w1 s; obtain ⟨⟨c0, c1, c2, c3, c4, c5, c6, c7⟩, c8, c9, cT⟩ := msgAll hk s; have sB := s)
                  | (refine rhas_c (f := 0) (by decide) s ?_; rw [H0.out]; clear c0 c1 c2 c3 c4 c5 c6 c7 c8 c9 cT s; rintro w1 s; obtain ⟨⟨c0, c1, c2, c3, c4, c5, c6, c7⟩, c8, c9, cT⟩ := msgAll hk s; have sA := s))
                go_meet
                case rel => exact ⟨rfl, s⟩
              | false =>
                cases p4 with
                | true =>
                  go_wp2_with (go_at_call 108; first
                    | (have sB0 := sB; refine rhas_c (f := 3) (by decide) s ?_; rw [H3.out]; clear c0 c1 c2 c3 c4 c5 c6 c7 c8 c9 cT s; rintro w1 s; obtain ⟨⟨c0, c1, c2, c3, c4, c5, c6, c7⟩, c8, c9, cT⟩ := msgAll hk s; have sC := s)
                    | (have sA0 := sA; refine rhas_c (f := 2) (by decide) s ?_; rw [H2.out]; clear c0 c1 c2 c3 c4 c5 c6 c7 c8 c9 cT s; rintro w1 s; obtain ⟨⟨c0, c1, c2, c3, c4, c5, c6, c7⟩, c8, c9, cT⟩ := msgAll hk s; have sB := s)
                    | (refine rhas_c (f := 0) (by decide) s ?_; rw [H0.out]; clear c0 c1 c2 c3 c4 c5 c6 c7 c8 c9 cT s; rintro w1 s; obtain ⟨⟨c0, c1, c2, c3, c4, c5, c6, c7⟩, c8, c9, cT⟩ := msgAll hk s; have sA := s))
                  go_meet
                  case rel => exact ⟨rfl, s⟩
                | false =>
                  go_wp2_with (go_at_call 108; first
                    | (have sB0 := sB; refine rhas_c (f := 3) (by decide) s ?_; rw [H3.out]; clear c0 c1 c2 c3 c4 c5 c6 c7 c8 c9 cT s; rintro w1 s; obtain ⟨⟨c0, c1, c2, c3, c4, c5, c6, c7⟩, c8, c9, cT⟩ := msgAll hk s; have sC := s)
                    | (have sA0 := sA; refine rhas_c (f := 2) (by decide) s ?_; rw [H2.out]; clear c0 c1 c2 c3 c4 c5 c6 c7 c8 c9 cT s; rintro w1 s; obtain ⟨⟨c0, c1, c2, c3, c4, c5, c6, c7⟩, c8, c9, cT⟩ := msgAll hk s; have sB := s)
                    | (refine rhas_c (f := 0) (by decide) s ?_; rw [H0.out]; clear c0 c1 c2 c3 c4 c5 c6 c7 c8 c9 cT s; rintro w1 s; obtain ⟨⟨c0, c1, c2, c3, c4, c5, c6, c7⟩, c8, c9, cT⟩ := msgAll hk s; have sA := s))
                  go_meet
                  case rel => exact ⟨rfl, s⟩
  case rest =>
    obtain ⟨rfl, sr⟩ := hcut
    clear c0 c1 c2 c3 c4 c5 c6 c7 c8 c9 cT s
    have s := sr
    clear sr
    obtain ⟨⟨c0, c1, c2, c3, c4, c5, c6, c7⟩, c8, c9, cT⟩ := msgAll hk s
    obtain ⟨A, hA⟩ : ∃ A, ((!h0 && (p1 || p2)) || ((!h2 && p3) || (!h3 && p4))) = A := ⟨_, rfl⟩
    rw [hA] at HK ⊢
    clear hA
    cases A with
    | true =>
      go_wp2
      exact HK.out _ s.drop
    | false =>
      cases h4 with
      | true =>
        cases h5 with
        | true =>
          cases h6 with
          | true =>
            go_wp2_with (go_at_call 108; first
              | (have sB0 := sB; refine rhas_c (f := 6) (by decide) s ?_; rw [H6.out]; clear c0 c1 c2 c3 c4 c5 c6 c7 c8 c9 cT s; rintro w1 s; obtain ⟨⟨c0, c1, c2, c3, c4, c5, c6, c7⟩, c8, c9, cT⟩ := msgAll hk s; have sC := s)
              | (have sA0 := sA; refine rhas_c (f := 5) (by decide) s ?_; rw [H5.out]; clear c0 c1 c2 c3 c4 c5 c6 c7 c8 c9 cT s; rintro w1 s; obtain ⟨⟨c0, c1, c2, c3, c4, c5, c6, c7⟩, c8, c9, cT⟩ := msgAll hk s; have sB := s)
              | (refine rhas_c (f := 4) (by decide) s ?_; rw [H4.out]; clear c0 c1 c2 c3 c4 c5 c6 c7 c8 c9 cT s; rintro w1 s; obtain ⟨⟨c0, c1, c2, c3, c4, c5, c6, c7⟩, c8, c9, cT⟩ := msgAll hk s; have sA := s))
            exact HK.out _ s.drop
          | false =>
            cases p7 with
            | false =>
              go_wp2_with (go_at_call 108; first
                | (have sB0 := sB; refine rhas_c (f := 6) (by decide) s ?_; rw [H6.out]; clear c0 c1 c2 c3 c4 c5 c6 c7 c8 c9 cT s; rintro w1 s; obtain ⟨⟨c0, c1, c2, c3, c4, c5, c6, c7⟩, c8, c9, cT⟩ := msgAll hk s; have sC := s)
                | (have sA0 := sA; refine rhas_c (f := 5) (by decide) s ?_; rw [H5.out]; clear c0 c1 c2 c3 c4 c5 c6 c7 c8 c9 cT s; rintro w1 s; obtain ⟨⟨c0, c1, c2, c3, c4, c5, c6, c7⟩, c8, c9, cT⟩ := msgAll hk s; have sB := s)
                | (refine rhas_c (f := 4) (by decide) s ?_; rw [H4.out]; clear c0 c1 c2 c3 c4 c5 c6 c7 c8 c9 cT s; rintro w1 s; obtain ⟨⟨c0, c1, c2, c3, c4, c5, c6, c7⟩, c8, c9, cT⟩ := msgAll hk s; have sA := s))
              exact HK.out _ s.drop
            | true =>
              go_wp2_with (go_at_call 108; first
                | (have sB0 := sB; refine rhas_c (f := 6) (by decide) s ?_; rw [H6.out]; clear c0 c1 c2 c3 c4 c5 c6 c7 c8 c9 cT s; rintro w1 s; obtain ⟨⟨c0, c1, c2, c3, c4, c5, c6, c7⟩, c8, c9, cT⟩ := msgAll hk s; have sC := s)
                | (have sA0 := sA; refine rhas_c (f := 5) (by decide) s ?_; rw [H5.out]; clear c0 c1 c2 c3 c4 c5 c6 c7 c8 c9 cT s; rintro w1 s; obtain ⟨⟨c0, c1, c2, c3, c4, c5, c6, c7⟩, c8, c9, cT⟩ := msgAll hk s; have sB := s)
                | (refine rhas_c (f := 4) (by decide) s ?_; rw [H4.out]; clear c0 c1 c2 c3 c4 c5 c6 c7 c8 c9 cT s; rintro w1 s; obtain ⟨⟨c0, c1, c2, c3, c4, c5, c6, c7⟩, c8, c9, cT⟩ := msgAll hk s; have sA := s))
              exact HK.out _ s.drop
        | false =>
          cases p6 with
          | false =>
            go_wp2_with (go_at_call 108; first
              | (have sB0 := sB; refine rhas_c (f := 6) (by decide) s ?_; rw [H6.out]; clear c0 c1 c2 c3 c4 c5 c6 c7 c8 c9 cT s; rintro w1 s; obtain ⟨⟨c0, c1, c2, c3, c4, c5, c6, c7⟩, c8, c9, cT⟩ := msgAll hk s; have sC := s)
              | (have sA0 := sA; refine rhas_c (f := 5) (by decide) s ?_; rw [H5.out]; clear c0 c1 c2 c3 c4 c5 c6 c7 c8 c9 cT s; rintro w1 s; obtain ⟨⟨c0, c1, c2, c3, c4, c5, c6, c7⟩, c8, c9, cT⟩ := msgAll hk s; have sB := s)
              | (refine rhas_c (f := 4) (by decide) s ?_; rw [H4.out]; clear c0 c1 c2 c3 c4 c5 c6 c7 c8 c9 cT s; rintro w1 s; obtain ⟨⟨c0, c1, c2, c3, c4, c5, c6, c7⟩, c8, c9, cT⟩ := msgAll hk s; have sA := s))
            exact HK.out _ s.drop
          | true =>
            cases h6 with
            | true =>
              go_wp2_with (go_at_call 108; first
                | (have sB0 := sB; refine rhas_c (f := 6) (by decide) s ?_; rw [H6.out]; clear c0 c1 c2 c3 c4 c5 c6 c7 c8 c9 cT s; rintro w1 s; obtain ⟨⟨c0, c1, c2, c3, c4, c5, c6, c7⟩, c8, c9, cT⟩ := msgAll hk s; have sC := s)
                | (have sA0 := sA; refine rhas_c (f := 5) (by decide) s ?_; rw [H5.out]; clear c0 c1 c2 c3 c4 c5 c6 c7 c8 c9 cT s; rintro w1 s; obtain ⟨⟨c0, c1, c2, c3, c4, c5, c6, c7⟩, c8, c9, cT⟩ := msgAll hk s; have sB := s)
                | (refine rhas_c (f := 4) (by decide) s ?_; rw [H4.out]; clear c0 c1 c2 c3 c4 c5 c6 c7 c8 c9 cT s; rintro w1 s; obtain ⟨⟨c0, c1, c2, c3, c4, c5, c6, c7⟩, c8, c9, cT⟩ := msgAll hk s; have sA := s))
              exact HK.out _ s.drop
            | false =>
              cases p7 with
              | false =>
                go_wp2_with (go_at_call 108; first
                  | (have sB0 := sB; refine rhas_c (f := 6) (by decide) s ?_; rw [H6.out]; clear c0 c1 c2 c3 c4 c5 c6 c7 c8 c9 cT s; rintro w1 s; obtain ⟨⟨c0, c1, c2, c3, c4, c5, c6, c7⟩, c8, c9, cT⟩ := msgAll hk s; have sC := s)
                  | (have sA0 := sA; refine rhas_c (f := 5) (by decide) s ?_; rw [H5.out]; clear c0 c1 c2 c3 c4 c5 c6 c7 c8 c9 cT s; rintro w1 s; obtain ⟨⟨c0, c1, c2, c3, c4, c5, c6, c7⟩, c8, c9, cT⟩ := msgAll hk s; have sB := s)
                  | (refine rhas_c (f := 4) (by decide) s ?_; rw [H4.out]; clear c0 c1 c2 c3 c4 c5 c6 c7 c8 c9 cT s; rintro w1 s; obtain ⟨⟨c0, c1, c2, c3, c4, c5, c6, c7⟩, c8, c9, cT⟩ := msgAll hk s; have sA := s))
                exact HK.out _ s.drop
              | true =>
                go_wp2_with (go_at_call 108; first
                  | (have sB0 := sB; refine rhas_c (f := 6) (by decide) s ?_; rw [H6.out]; clear c0 c1 c2 c3 c4 c5 c6 c7 c8 c9 cT s; rintro w1 s; obtain ⟨⟨c0, c1, c2, c3, c4, c5, c6, c7⟩, c8, c9, cT⟩ := msgAll hk s; have sC := s)
                  | (have sA0 := sA; refine rhas_c (f := 5) (by decide) s ?_; rw [H5.out]; clear c0 c1 c2 c3 c4 c5 c6 c7 c8 c9 cT s; rintro w1 s; obtain ⟨⟨c0, c1, c2, c3, c4, c5, c6, c7⟩, c8, c9, cT⟩ := msgAll hk s; have sB := s)
                  | (refine rhas_c (f := 4) (by decide) s ?_; rw [H4.out]; clear c0 c1 c2 c3 c4 c5 c6 c7 c8 c9 cT s; rintro w1 s; obtain ⟨⟨c0, c1, c2, c3, c4, c5, c6, c7⟩, c8, c9, cT⟩ := msgAll hk s; have sA := s))
                exact HK.out _ s.drop
      | false =>
        cases p5 with
        | false =>
          go_wp2_with (go_at_call 108; first
            | (have sB0 := sB; refine rhas_c (f := 6) (by decide) s ?_; rw [H6.out]; clear c0 c1 c2 c3 c4 c5 c6 c7 c8 c9 cT s; rintro w1 s; obtain ⟨⟨c0, c1, c2, c3, c4, c5, c6, c7⟩, c8, c9, cT⟩ := msgAll hk s; have sC := s)
            | (have sA0 := sA; refine rhas_c (f := 5) (by decide) s ?_; rw [H5.out]; clear c0 c1 c2 c3 c4 c5 c6 c7 c8 c9 cT s; rintro w1 s; obtain ⟨⟨c0, c1, c2, c3, c4, c5, c6, c7⟩, c8, c9, cT⟩ := msgAll hk s; have sB := s)
            | (refine rhas_c (f := 4) (by decide) s ?_; rw [H4.out]; clear c0 c1 c2 c3 c4 c5 c6 c7 c8 c9 cT s; rintro w1 s; obtain ⟨⟨c0, c1, c2, c3, c4, c5, c6, c7⟩, c8, c9, cT⟩ := msgAll hk s; have sA := s))
          exact HK.out _ s.drop
        | true =>
          cases h5 with
          | true =>
            cases h6 with
            | true =>
              go_wp2_with (go_at_call 108; first
                | (have sB0 := sB; refine rhas_c (f := 6) (by decide) s ?_; rw [H6.out]; clear c0 c1 c2 c3 c4 c5 c6 c7 c8 c9 cT s; rintro w1 s; obtain ⟨⟨c0, c1, c2, c3, c4, c5, c6, c7⟩, c8, c9, cT⟩ := msgAll hk s; have sC := s)
                | (have sA0 := sA; refine rhas_c (f := 5) (by decide) s ?_; rw [H5.out]; clear c0 c1 c2 c3 c4 c5 c6 c7 c8 c9 cT s; rintro w1 s; obtain ⟨⟨c0, c1, c2, c3, c4, c5, c6, c7⟩, c8, c9, cT⟩ := msgAll hk s; have sB := s)
                | (refine rhas_c (f := 4) (by decide) s ?_; rw [H4.out]; clear c0 c1 c2 c3 c4 c5 c6 c7 c8 c9 cT s; rintro w1 s; obtain ⟨⟨c0, c1, c2, c3, c4, c5, c6, c7⟩, c8, c9, cT⟩ := msgAll hk s; have sA := s))
              exact HK.out _ s.drop
            | false =>
              cases p7 with
              | false =>
                go_wp2_with (go_at_call 108; first
                  | (have sB0 := sB; refine rhas_c (f := 6) (by decide) s ?_; rw [H6.out]; clear c0 c1 c2 c3 c4 c5 c6 c7 c8 c9 cT s; rintro w1 s; obtain ⟨⟨c0, c1, c2, c3, c4, c5, c6, c7⟩, c8, c9, cT⟩ := msgAll hk s; have sC := s)
                  | (have sA0 := sA; refine rhas_c (f := 5) (by decide) s ?_; rw [H5.out]; clear c0 c1 c2 c3 c4 c5 c6 c7 c8 c9 cT s; rintro w1 s; obtain ⟨⟨c0, c1, c2, c3, c4, c5, c6, c7⟩, c8, c9, cT⟩ := msgAll hk s; have sB := s)
                  | (refine rhas_c (f := 4) (by decide) s ?_; rw [H4.out]; clear c0 c1 c2 c3 c4 c5 c6 c7 c8 c9 cT s; rintro w1 s; obtain ⟨⟨c0, c1, c2, c3, c4, c5, c6, c7⟩, c8, c9, cT⟩ := msgAll hk s; have sA := s))
                exact HK.out _ s.drop
              | true =>
                go_wp2_with (go_at_call 108; first
                  | (have sB0 := sB; refine rhas_c (f := 6) (by decide) s ?_; rw [H6.out]; clear c0 c1 c2 c3 c4 c5 c6 c7 c8 c9 cT s; rintro w1 s; obtain ⟨⟨c0, c1, c2, c3, c4, c5, c6, c7⟩, c8, c9, cT⟩ := msgAll hk s; have sC := s)
                  | (have sA0 := sA; refine rhas_c (f := 5) (by decide) s ?_; rw [H5.out]; clear c0 c1 c2 c3 c4 c5 c6 c7 c8 c9 cT s; rintro w1 s; obtain ⟨⟨c0, c1, c2, c3, c4, c5, c6, c7⟩, c8, c9, cT⟩ := msgAll hk s; have sB := s)
                  | (refine rhas_c (f := 4) (by decide) s ?_; rw [H4.out]; clear c0 c1 c2 c3 c4 c5 c6 c7 c8 c9 cT s; rintro w1 s; obtain ⟨⟨c0, c1, c2, c3, c4, c5, c6, c7⟩, c8, c9, cT⟩ := msgAll hk s; have sA := s))
                exact HK.out _ s.drop
          | false =>
            cases p6 with
            | false =>
              go_wp2_with (go_at_call 108; first
                | (have sB0 := sB; refine rhas_c (f := 6) (by decide) s ?_; rw [H6.out]; clear c0 c1 c2 c3 c4 c5 c6 c7 c8 c9 cT s; rintro w1 s; obtain ⟨⟨c0, c1, c2, c3, c4, c5, c6, c7⟩, c8, c9, cT⟩ := msgAll hk s; have sC := s)
                | (have sA0 := sA; refine rhas_c (f := 5) (by decide) s ?_; rw [H5.out]; clear c0 c1 c2 c3 c4 c5 c6 c7 c8 c9 cT s; rintro w1 s; obtain ⟨⟨c0, c1, c2, c3, c4, c5, c6, c7⟩, c8, c9, cT⟩ := msgAll hk s; have sB := s)
                | (refine rhas_c (f := 4) (by decide) s ?_; rw [H4.out]; clear c0 c1 c2 c3 c4 c5 c6 c7 c8 c9 cT s; rintro w1 s; obtain ⟨⟨c0, c1, c2, c3, c4, c5, c6, c7⟩, c8, c9, cT⟩ := msgAll hk s; have sA := s))
              exact HK.out _ s.drop
            | true =>
              cases h6 with
              | true =>
                go_wp2_with (go_at_call 108; first
                  | (have sB0 := sB; refine rhas_c (f := 6) (by decide) s ?_; rw [H6.out]; clear c0 c1 c2 c3 c4 c5 c6 c7 c8 c9 cT s; rintro w1 s; obtain ⟨⟨c0, c1, c2, c3, c4, c5, c6, c7⟩, c8, c9, cT⟩ := msgAll hk s; have sC := s)
                  | (have sA0 := sA; refine rhas_c (f := 5) (by decide) s ?_; rw [H5.out]; clear c0 c1 c2 c3 c4 c5 c6 c7 c8 c9 cT s; rintro w1 s; obtain ⟨⟨c0, c1, c2, c3, c4, c5, c6, c7⟩, c8, c9, cT⟩ := msgAll hk s; have sB := s)
                  | (refine rhas_c (f := 4) (by decide) s ?_; rw [H4.out]; clear c0 c1 c2 c3 c4 c5 c6 c7 c8 c9 cT s; rintro w1 s; obtain ⟨⟨c0, c1, c2, c3, c4, c5, c6, c7⟩, c8, c9, cT⟩ := msgAll hk s; have sA := s))
                exact HK.out _ s.drop
              | false =>
                cases p7 with
                | false =>
                  go_wp2_with (go_at_call 108; first
                    | (have sB0 := sB; refine rhas_c (f := 6) (by decide) s ?_; rw [H6.out]; clear c0 c1 c2 c3 c4 c5 c6 c7 c8 c9 cT s; rintro w1 s; obtain ⟨⟨c0, c1, c2, c3, c4, c5, c6, c7⟩, c8, c9, cT⟩ := msgAll hk s; have sC := s)
                    | (have sA0 := sA; refine rhas_c (f := 5) (by decide) s ?_; rw [H5.out]; clear c0 c1 c2 c3 c4 c5 c6 c7 c8 c9 cT s; rintro w1 s; obtain ⟨⟨c0, c1, c2, c3, c4, c5, c6, c7⟩, c8, c9, cT⟩ := msgAll hk s; have sB := s)
                    | (refine rhas_c (f := 4) (by decide) s ?_; rw [H4.out]; clear c0 c1 c2 c3 c4 c5 c6 c7 c8 c9 cT s; rintro w1 s; obtain ⟨⟨c0, c1, c2, c3, c4, c5, c6, c7⟩, c8, c9, cT⟩ := msgAll hk s; have sA := s))
                  exact HK.out _ s.drop
                | true =>
                  go_wp2_with (go_at_call 108; first
                    | (have sB0 := sB; refine rhas_c (f := 6) (by decide) s ?_; rw [H6.out]; clear c0 c1 c2 c3 c4 c5 c6 c7 c8 c9 cT s; rintro w1 s; obtain ⟨⟨c0, c1, c2, c3, c4, c5, c6, c7⟩, c8, c9, cT⟩ := msgAll hk s; have sC := s)
                    | (have sA0 := sA; refine rhas_c (f := 5) (by decide) s ?_; rw [H5.out]; clear c0 c1 c2 c3 c4 c5 c6 c7 c8 c9 cT s; rintro w1 s; obtain ⟨⟨c0, c1, c2, c3, c4, c5, c6, c7⟩, c8, c9, cT⟩ := msgAll hk s; have sB := s)
                    | (refine rhas_c (f := 4) (by decide) s ?_; rw [H4.out]; clear c0 c1 c2 c3 c4 c5 c6 c7 c8 c9 cT s; rintro w1 s; obtain ⟨⟨c0, c1, c2, c3, c4, c5, c6, c7⟩, c8, c9, cT⟩ := msgAll hk s; have sA := s))
                  exact HK.out _ s.drop

end

end Go.Proofs.YtbpdchaeakihkaaGreat
