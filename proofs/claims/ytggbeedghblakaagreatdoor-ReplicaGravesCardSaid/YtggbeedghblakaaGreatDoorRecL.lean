/- The replica in plain Lean: what is done again with each record, when a disk is opened. -/
import Derived.Test.YtggbeedghblakaaGreatDoorRepsM
namespace Go.Proofs.YtggbeedghblakaaGreatDoor
open Go.RowKit Go.Qd RepV

namespace RepV
/-- An entry that was set down is noted again. -/
def noted (r : RepV) (e : EnV) : RepV := ((r.see e.ac e.az).wrote e).buried e
def recOld (r : RepV) (e : EnV) : Bool := thas r.tab e.key && !newerB e (tget r.tab e.key)
def rec1 (r : RepV) (e : EnV) : RepV := if r.recOld e = true then r.noted e else (r.noted e).placed e
/-- Is there room for it? -/
def recOK (r : RepV) (e : EnV) : Bool := r.recOld e || r.roomB e.key
def recAll (r : RepV) : List EnV → Option RepV
  | [] => some r
  | e :: l => if r.recOK e = true then (r.rec1 e).recAll l else none
theorem recAll_cons (r : RepV) (e : EnV) (l : List EnV) : r.recAll (e :: l) = if r.recOK e = true then (r.rec1 e).recAll l else none := rfl
theorem recAll_append (r : RepV) (l m : List EnV) : r.recAll (l ++ m) = (r.recAll l).bind fun q => q.recAll m := by
  induction l generalizing r with
  | nil => rfl
  | cons x l ih =>
    rw [List.cons_append, recAll_cons, recAll_cons]
    split
    · exact ih _
    · rfl
theorem recAll_snoc (r : RepV) (l : List EnV) (e : EnV) : r.recAll (l ++ [e]) = (r.recAll l).bind fun q => if q.recOK e = true then some (q.rec1 e) else none := recAll_append r l [e]
end RepV

theorem noted_same (r : RepV) (e : EnV) : (r.noted e).tab = r.tab ∧ (r.noted e).nodes = r.nodes ∧ (r.noted e).quota = r.quota ∧ (r.noted e).retain = r.retain ∧ (r.noted e).t1 = r.t1 ∧ (r.noted e).t2 = r.t2 ∧ (r.noted e).site = r.site ∧ (r.noted e).d = r.d ∧ (r.noted e).ix = r.ix ∧ (r.noted e).sum = r.sum := by
  unfold RepV.noted RepV.buried RepV.wrote RepV.see
  split <;> split <;> exact ⟨rfl, rfl, rfl, rfl, rfl, rfl, rfl, rfl, rfl, rfl⟩

theorem rec1_d (r : RepV) (e : EnV) : (r.rec1 e).d = r.d := by
  have h := (noted_same r e).2.2.2.2.2.2.2.1
  unfold RepV.rec1
  split
  · exact h
  · exact h
theorem RepOK.noted {r : RepV} (h : RepOK r) (e : EnV) : RepOK (r.noted e) := ((h.see _ _).wrote e).buried e
theorem RepOK.rec1 {r : RepV} (h : RepOK r) {e : EnV} (hk : r.recOK e = true) : RepOK (r.rec1 e) := by
  unfold RepV.rec1
  split
  · exact h.noted e
  · rename_i ho
    refine (h.noted e).placed ?_
    unfold RepV.recOK at hk
    rw [Bool.or_eq_true] at hk
    obtain ⟨h1, h2, h3, _⟩ := noted_same r e
    have hr := hk.resolve_left ho
    unfold RepV.roomB RepV.room at hr ⊢
    rw [h1, h2, h3]; exact hr
theorem RepOK.recAll {r q : RepV} (h : RepOK r) {l : List EnV} (hq : r.recAll l = some q) : RepOK q := by
  induction l generalizing r with
  | nil => cases hq; exact h
  | cons e l ih =>
    unfold RepV.recAll at hq
    split at hq
    · rename_i hk; exact ih (h.rec1 hk) hq
    · cases hq

/-- A fresh replica. -/
theorem RepOK.fresh {nodes quota retain t1 t2 site : Int} {d : DskV} (hn : 1 ≤ nodes ∧ nodes ≤ 12) (hq : 1 ≤ quota ∧ quota ≤ 64) (hs : 0 ≤ site ∧ site < nodes) (ht : 0 ≤ t1 ∧ t1 ≤ 2147483647) (hd : DskOK d) : RepOK (RepV.fresh nodes quota retain t1 t2 site d) := by
  have hr : 0 ≤ nodes * quota ∧ nodes * quota ≤ 768 := by
    constructor
    · exact Int.mul_nonneg (by omega) (by omega)
    · have := Int.mul_le_mul (a := nodes) (b := quota) (c := 12) (d := 64) hn.2 hq.2 (by omega) (by omega)
      omega
  refine ⟨List.Pairwise.nil, fun _ h => (by cases h), ?_, ?_, List.Pairwise.nil, fun _ h => (by cases h), by simp [RepV.fresh], ⟨List.Pairwise.nil, fun _ h => (by cases h)⟩, rfl, fun k => rfl, List.Pairwise.nil, fun _ h => (by cases h), by simp [RepV.fresh], by simp [RepV.fresh], ?_, Int.le_refl _, hd, ht⟩
  · show ((0 : Nat) : Int) ≤ nodes * quota; omega
  · show nodes * quota ≤ 4000; omega
  · show 0 ≤ site ∧ site < 12; omega
end Go.Proofs.YtggbeedghblakaaGreatDoor
