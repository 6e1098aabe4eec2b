/- The document's Newer and Alike of entries; Short; the sites' stamps compared. -/
import Derived.Test.YtojfjbbggpfijaaGreatDoorREnt
import Derived.Test.YtojfjbbggpfijaaGreatDoorGras
namespace Go.Proofs.YtojfjbbggpfijaaGreatDoor
open Go.RowKit Go.Qd

def eqRG (x y : Operand) (a b : Value) : Sem Value := do eqGuard .eql 43 x y a b; Go.binOp .eql 43 a b
theorem execOp_eqR (ρ : Operand → Value) (dst : Option Tmp) (x y : Operand) (r : TypeId) (ty : TypeId) (pos : String) (after : Array Edge) (guard : Option (Nat × Bool)) :
    execOp ρ { dst, op := .binOp .eql 43 x y r, type := ty, pos, after, guard } = (do pure (.value (← eqRG x y (ρ x) (ρ y)))) := by simp [execOp, eqRG]
theorem run_eqR1 (x y : Operand) (a b : EnV) (w : World) : ∃ t : Bool, (t = true ↔ a = b) ∧ (eqRG x y (.agg a.cells.toArray) (.agg b.cells.toArray)).run Tryz.prog w = .ok (.bool t) w := by
  obtain ⟨k, v, d, sc, ss, ac, az, kp, ag⟩ := a
  obtain ⟨k', v', d', sc', ss', ac', az', kp', ag'⟩ := b
  unfold eqRG EnV.cells
  go_simp
  by_cases h : k = k' ∧ v = v' ∧ d = d' ∧ sc = sc' ∧ ss = ss' ∧ ac = ac' ∧ az = az' ∧ kp = kp' ∧ ag = ag'
  · refine Or.inr ⟨h, ?_⟩
    obtain ⟨rfl, rfl, rfl, rfl, rfl, rfl, rfl, rfl, rfl⟩ := h
    simp
  · exact Or.inl ⟨fun a1 a2 a3 a4 a5 a6 a7 a8 a9 => h ⟨a1, a2, a3, a4, a5, a6, a7, a8, a9⟩, fun a1 a2 a3 a4 a5 a6 a7 a8 a9 => h ⟨toList_inj a1, toList_inj a2, a3, a4, a5, a6, a7, a8, a9⟩⟩
open Classical in
theorem run_eqR (a b : EnV) (x y : Operand) (w : World) : (eqRG x y (.agg a.cells.toArray) (.agg b.cells.toArray)).run Tryz.prog w = .ok (.bool (eqEn a b)) w := by
  obtain ⟨t, h1, h2⟩ := run_eqR1 x y a b w
  rw [h2]
  have : t = eqEn a b := by
    unfold eqEn
    cases t with
    | true => exact (decide_eq_true (h1.1 rfl)).symm
    | false => exact (decide_eq_false (fun h => by have := h1.2 h; cases this)).symm
  rw [this]
theorem lenB_nil (b : ByteArray) : lenB b = !nilB b := by
  unfold lenB nilB
  have h : b.toList = b.data.toList := Lib.toList_data b
  rw [h]
  obtain ⟨⟨l⟩⟩ := b
  cases l with
  | nil => rfl
  | cons x l => rfl
theorem rcheckE_is (e : EnV) : rcheckE e = checkE e := rcheckE_eq e (lenB_nil e.val)

theorem ltrB_gt (c s d t : Int) : ltrB c s d t = decide (0 < cmpS c s d t) := by
  rw [ltrB_eq]
  have h1 := @cmpS_lt d t c s
  have h2 := @cmpS_gt c s d t
  by_cases h : cmpS d t c s < 0
  · rw [decide_eq_true h]; have := h1.1 h; exact (decide_eq_true (h2.2 (by omega))).symm
  · rw [decide_eq_false h]; exact (decide_eq_false (fun x => h (h1.2 (by have := h2.1 x; omega)))).symm
theorem rnewer_eq (a b : EnV) : (if (!eq2B a.sc a.ss b.sc b.ss) = true then ltrB a.sc a.ss b.sc b.ss else ltrB a.ac a.az b.ac b.az) = newerB a b := by
  unfold newerB
  rw [ltrB_gt, ltrB_gt]
  have h := @cmpS_zero a.sc a.ss b.sc b.ss
  unfold eq2B
  by_cases hz : cmpS a.sc a.ss b.sc b.ss = 0
  · obtain ⟨h1, h2⟩ := h.1 hz
    rw [if_pos hz, h1, h2]; simp
  · rw [if_neg hz, if_pos]
    rw [Bool.not_eq_true', Bool.and_eq_false_iff, decide_eq_false_iff_not, decide_eq_false_iff_not]
    by_cases h1 : a.sc = b.sc
    · exact .inr fun h2 => hz (h.2 ⟨h1, h2⟩)
    · exact .inl h1

def shortB (e : EnV) : Bool := decide ((e.key.size : Int) ≤ 300) && decide ((e.val.size : Int) ≤ 300)

section
attribute [local go_sem ↓] execOp_ldAny execOp_neS execOp_eqR
attribute [local go_sem] run_neS run_eqR
variable {W w : World} {R : List HP} {post : Ending → World → Prop}

set_option maxRecDepth 100000 in
theorem short_c {e : EnV} (st : St W w R) (K : ∀ w', St W w' R → post (.returned (.bool (shortB e))) w') : Calls Tryz.prog 30 #[.agg e.cells.toArray] w post := by
  unfold shortB at K
  obtain ⟨k1, hk1⟩ : ∃ b, decide ((e.key.size : Int) ≤ 300) = b := ⟨_, rfl⟩
  obtain ⟨v1, hv1⟩ : ∃ b, decide ((e.val.size : Int) ≤ 300) = b := ⟨_, rfl⟩
  rw [hk1, hv1] at K
  cases k1 with
  | false =>
    replace K : ∀ w', St W w' R → post (.returned (.bool false)) w' := K
    have HK := hid K; clear K
    go_enter Tryz.func30, Tryz.ntmps30
    go_wp2_with (refine wpl_boxA (vs := e.cells) rfl (.tmp 0) rfl rfl st ?_; rintro T w1 s1; obtain ⟨c0, c1, c2, c3, c4, c5, c6⟩ := enLOf s1)
    exact HK.out _ s1.drop
  | true =>
    replace K : ∀ w', St W w' R → post (.returned (.bool v1)) w' := K
    have HK := hid K; clear K
    go_enter Tryz.func30, Tryz.ntmps30
    go_wp2_with (refine wpl_boxA (vs := e.cells) rfl (.tmp 0) rfl rfl st ?_; rintro T w1 s1; obtain ⟨c0, c1, c2, c3, c4, c5, c6⟩ := enLOf s1)
    exact HK.out _ s1.drop

set_option maxRecDepth 100000 in
set_option maxHeartbeats 1000000 in
theorem rnewer_c {a b : EnV} (st : St W w R) (K : ∀ w', St W w' R → post (.returned (.bool (newerB a b))) w') : Calls Tryz.prog 16 #[.agg a.cells.toArray, .agg b.cells.toArray] w post := by
  rw [← rnewer_eq] at K
  obtain ⟨z, hz⟩ : ∃ z, eq2B a.sc a.ss b.sc b.ss = z := ⟨_, rfl⟩
  rw [hz] at K
  cases z with
  | false =>
    replace K : ∀ w', St W w' R → post (.returned (.bool (ltrB a.sc a.ss b.sc b.ss))) w' := K
    have HK := hid K; clear K
    go_enter Tryz.func16, Tryz.ntmps16
    go_wp2_with (first
      | (refine wpl_boxA (vs := a.cells) rfl (.tmp 0) rfl rfl st ?_; rintro T w1 s1)
      | (refine wpl_boxA (vs := b.cells) rfl (.tmp 1) rfl rfl s1 ?_; rintro U w2 s2; obtain ⟨c0, c1, c2, c3, c4, c5, c6⟩ := enLOf s2; obtain ⟨d0, d1, d2, d3, d4, d5, d6⟩ := enLOf (St.pick 1 s2))
      | (go_at_call 45; refine rlater_c s2 ?_; rintro w3 s3))
    exact HK.out _ (s3.dropN 2)
  | true =>
    replace K : ∀ w', St W w' R → post (.returned (.bool (ltrB a.ac a.az b.ac b.az))) w' := K
    have HK := hid K; clear K
    go_enter Tryz.func16, Tryz.ntmps16
    go_wp2_with (first
      | (refine wpl_boxA (vs := a.cells) rfl (.tmp 0) rfl rfl st ?_; rintro T w1 s1)
      | (refine wpl_boxA (vs := b.cells) rfl (.tmp 1) rfl rfl s1 ?_; rintro U w2 s2; obtain ⟨c0, c1, c2, c3, c4, c5, c6⟩ := enLOf s2; obtain ⟨d0, d1, d2, d3, d4, d5, d6⟩ := enLOf (St.pick 1 s2))
      | (go_at_call 45; refine rlater_c s2 ?_; rintro w3 s3))
    exact HK.out _ (s3.dropN 2)

end
end Go.Proofs.YtojfjbbggpfijaaGreatDoor
