/- Structs and arrays by value, of whatever size, in the logic of ownership: load, store, box, alloc of all their cells at once. -/
import Derived.Test.YtbpdchaeakihkaaGreatCopy
import Derived.Laws.Rows
namespace Go.Qd
open Go.RowKit

structure AggT (P : Program) (t : TypeId) (n : Nat) : Prop where
  und : ∃ d, P.underlying t = some d ∧ (match d with | .struct _ | .array _ _ => true | _ => false) = true
  size : (P.info? t).map (·.size) = some n

section
variable {P : Program} {W w : World} {R : List HP} {t : TypeId} {n b o : Nat} {vs us : List Value}

theorem run_isAgg (A : AggT P t n) (w : World) : (isAgg t).run P w = .ok true w := by
  obtain ⟨d, hu, hd⟩ := A.und
  unfold isAgg
  rw [Sem.run_bind, run_underlying hu w]
  cases d <;> simp_all

theorem run_sizeA (A : AggT P t n) (w : World) : (sizeOf t).run P w = .ok n w := by
  have h := A.size
  cases hq : P.info? t with
  | none => simp [hq] at h
  | some i => simp [sizeOf, typeInfo, hq]; simpa [hq] using h

theorem run_loadA (A : AggT P t n) (hl : vs.length = n) (hc : ∀ j u, vs[j]? = some u → w.cell? ⟨b, o + j, none⟩ = some u) : (loadVar t ⟨b, o, none⟩).run P w = .ok (.agg vs.toArray) w := by
  have h := run_loadCells_list (P := P) w ⟨b, o, none⟩ vs (fun j u hu => by rw [add_plain']; exact hc j u hu)
  rw [hl] at h
  simp [loadVar, run_isAgg A, run_sizeA A, h]

theorem run_storeA (A : AggT P t n) (hl : vs.length = n) (h1 : ∀ u ∈ vs, u.oneCell' = true) (s : St W w (row b o us :: R)) {p : Nat} (hp : p + n ≤ us.length) :
    (storeVar t ⟨b, o + p, none⟩ (.agg vs.toArray)).run P w = .ok () (w.setCells b (o + p) vs) ∧ St W (w.setCells b (o + p) vs) (row b o (splice us p vs) :: R) := by
  have hst := run_storeCells_cells (P := P) b (o + p) vs 0 w (fun j hj => by
      rw [Nat.add_zero, Nat.add_assoc, s.rowCell (List.getElem?_eq_getElem (by omega : p + j < us.length))]; rfl)
    (fun j hj => by rw [Nat.add_zero, Nat.add_assoc]; exact s.rowFree (by omega)) h1
  rw [Nat.add_zero] at hst
  refine ⟨?_, s.setPart (by omega)⟩
  simp [storeVar, run_sizeA A, Value.cells, hl, hst]

theorem splice_all (h : vs.length = us.length) : splice us 0 vs = vs := by
  unfold splice; rw [List.take_zero, List.nil_append, Nat.zero_add, h, List.drop_length, List.append_nil]

variable {ops : Array Oper} {rest : List Oper} {q : Oper} {A : Act} {Q : Exit → Act → World → Prop} {KK : Act → World → Prop} {EE : Prop}

theorem wpl_loadA (hgd : q.guard = none) (x : Operand) (hop : q.op = Op.load t x) (T : AggT P t n) (hx : A.eval x = .pointer (some ⟨b, o, none⟩)) (hl : vs.length = n) (hc : ∀ j u, vs[j]? = some u → w.cell? ⟨b, o + j, none⟩ = some u)
    (hK : wpList P ops Q rest (A.put q.dst (.agg vs.toArray)) w) : wpList P ops Q (q :: rest) A w := by
  refine wpList_plain hgd fun K hK' => ?_
  unfold Oper.wp
  simp [execOp, hop, hx, Instr.loadAt, Instr.sureAddr, run_loadA T hl hc, Result.andThen]
  exact hK' _ _ hK

theorem step_loadA (hgd : q.guard = none) (x : Operand) (hop : q.op = Op.load t x) (T : AggT P t n) (hx : A.eval x = .pointer (some ⟨b, o, none⟩)) (hl : vs.length = n) (hc : ∀ j u, vs[j]? = some u → w.cell? ⟨b, o + j, none⟩ = some u)
    (hK : KK (A.put q.dst (.agg vs.toArray)) w) : if Region.wanted q (yielded ops A.tmps) = true then Oper.wp P q A w KK Q else EE := by
  have hw : Region.wanted q (yielded ops A.tmps) = true := by simp [Region.wanted, hgd]
  rw [if_pos hw]
  unfold Oper.wp
  simp [execOp, hop, hx, Instr.loadAt, Instr.sureAddr, run_loadA T hl hc, Result.andThen]
  exact hK

theorem wpl_storeA (hgd : q.guard = none) (x y : Operand) (hop : q.op = Op.store t x y) (T : AggT P t n) (hx : A.eval x = .pointer (some ⟨b, o, none⟩)) (hy : A.eval y = .agg vs.toArray) (hl : vs.length = n) (h1 : ∀ u ∈ vs, u.oneCell' = true)
    (s : St W w (row b o us :: R)) (hp : us.length = n) (hK : ∀ w', St W w' (row b o vs :: R) → wpList P ops Q rest (A.put q.dst undef) w') : wpList P ops Q (q :: rest) A w := by
  refine wpList_plain hgd fun K hK' => ?_
  obtain ⟨h2, s2⟩ := run_storeA T hl h1 s (p := 0) (by omega)
  rw [splice_all (by omega)] at s2
  unfold Oper.wp
  have h2' : (storeVar t ⟨b, o, none⟩ (.agg vs.toArray)).run P w = .ok () (w.setCells b (o + 0) vs) := h2
  simp [execOp, hop, hx, hy, Instr.storeAt, Instr.sureAddr, h2', Result.andThen]
  exact hK' _ _ (hK _ s2)

theorem step_storeA (hgd : q.guard = none) (x y : Operand) (hop : q.op = Op.store t x y) (T : AggT P t n) (hx : A.eval x = .pointer (some ⟨b, o, none⟩)) (hy : A.eval y = .agg vs.toArray) (hl : vs.length = n) (h1 : ∀ u ∈ vs, u.oneCell' = true)
    (s : St W w (row b o us :: R)) (hp : us.length = n) (hK : ∀ w', St W w' (row b o vs :: R) → KK (A.put q.dst undef) w') : if Region.wanted q (yielded ops A.tmps) = true then Oper.wp P q A w KK Q else EE := by
  have hw : Region.wanted q (yielded ops A.tmps) = true := by simp [Region.wanted, hgd]
  rw [if_pos hw]
  obtain ⟨h2, s2⟩ := run_storeA T hl h1 s (p := 0) (by omega)
  rw [splice_all (by omega)] at s2
  unfold Oper.wp
  have h2' : (storeVar t ⟨b, o, none⟩ (.agg vs.toArray)).run P w = .ok () (w.setCells b (o + 0) vs) := h2
  simp [execOp, hop, hx, hy, Instr.storeAt, Instr.sureAddr, h2', Result.andThen]
  exact hK _ s2

theorem wpl_boxA (hgd : q.guard = none) (x : Operand) (hop : q.op = Op.box t x) (hx : A.eval x = .agg vs.toArray) (s : St W w R)
    (hK : ∀ b' w', St W w' (row b' 0 vs :: R) → wpList P ops Q rest (A.put q.dst (.pointer (some ⟨b', 0, none⟩))) w') : wpList P ops Q (q :: rest) A w := by
  refine wpList_plain hgd fun K hK' => ?_
  unfold Oper.wp
  have := s.alloc vs.toArray t
  simp [execOp, hop, hx, Instr.box, newVar, newRow, Value.cells, Result.andThen]
  exact hK' _ _ (hK _ _ (by simpa using this))

theorem wpl_allocA (hgd : q.guard = none) (hop : q.op = Op.alloc t) (hz : ∀ w, (zeroValue t).run P w = .ok (.agg vs.toArray) w) (s : St W w R)
    (hK : ∀ b' w', St W w' (row b' 0 vs :: R) → wpList P ops Q rest (A.put q.dst (.pointer (some ⟨b', 0, none⟩))) w') : wpList P ops Q (q :: rest) A w := by
  refine wpList_plain hgd fun K hK' => ?_
  unfold Oper.wp
  have := s.alloc vs.toArray t
  simp [execOp, hop, Instr.alloc, newVar, newRow, Value.cells, Result.andThen, hz]
  exact hK' _ _ (hK _ _ (by simpa using this))

/-! ### For the walk's simp: a load or a store of an aggregate as ONE step. Take 'execOp_loadG t', 'execOp_storeG t' as local rows of go_sem ('↓'), name 'LoadsG P w t b vs' among a drawn region's facts; a store's law is 'run_storeG'. -/
def loadG (t : TypeId) (a : Value) : Sem Value := Instr.loadAt t a
def storeG (t : TypeId) (a x : Value) : Sem Unit := Instr.storeAt t a x

theorem execOp_loadG (t : TypeId) (ρ : Operand → Value) (dst : Option Tmp) (a : Operand) (ty : TypeId) (pos : String) (after : Array Edge) (guard : Option (Nat × Bool)) :
    execOp ρ { dst, op := .load t a, type := ty, pos, after, guard } = (do pure (.value (← loadG t (ρ a)))) := rfl
theorem execOp_storeG (t : TypeId) (ρ : Operand → Value) (dst : Option Tmp) (a x : Operand) (ty : TypeId) (pos : String) (after : Array Edge) (guard : Option (Nat × Bool)) :
    execOp ρ { dst, op := .store t a x, type := ty, pos, after, guard } = (do storeG t (ρ a) (ρ x); pure .skip) := rfl

theorem run_loadG (T : AggT P t n) (hl : vs.length = n) (hc : ∀ j u, vs[j]? = some u → w.cell? ⟨b, o + j, none⟩ = some u) : (loadG t (.pointer (some ⟨b, o, none⟩))).run P w = .ok (.agg vs.toArray) w := by
  simp [loadG, Instr.loadAt, Instr.sureAddr, run_loadA T hl hc]

/-- Cells that a store of n of them may hit. -/
def roomG (w : World) (b o n : Nat) : Prop := ∀ j, j < n → (w.cell? ⟨b, o + j, none⟩).isSome = true ∧ w.frozen? ⟨b, o + j, none⟩ = false
def oneG (vs : List Value) (n : Nat) : Prop := vs.length = n ∧ ∀ u ∈ vs, u.oneCell' = true

theorem St.roomG (s : St W w (row b o us :: R)) (h : us.length = n) : roomG w b o n := fun j hj => by
  have h1 := s.rowCell (List.getElem?_eq_getElem (by omega : j < us.length))
  exact ⟨by rw [h1]; rfl, s.rowFree (by omega)⟩

theorem run_storeG (T : AggT P t n) (hr : Qd.roomG w b o n) (ho : oneG vs n) : (storeG t (.pointer (some ⟨b, o, none⟩)) (.agg vs.toArray)).run P w = .ok () (w.setCells b o vs) := by
  have hst := run_storeCells_cells (P := P) b o vs 0 w (fun j hj => by
      rw [Nat.add_zero]; exact (hr j (by have := ho.1; omega)).1)
    (fun j hj => by rw [Nat.add_zero]; exact (hr j (by have := ho.1; omega)).2) ho.2
  rw [Nat.add_zero] at hst
  have hl := ho.1
  have h2 : (storeVar t ⟨b, o, none⟩ (.agg vs.toArray)).run P w = .ok () (w.setCells b o vs) := by
    simp [storeVar, run_sizeA T, Value.cells, hl, hst]
  simp [storeG, Instr.storeAt, Instr.sureAddr, h2]

theorem St.setAll (s : St W w (row b o us :: R)) (h : vs.length = us.length) : St W (w.setCells b o vs) (row b o vs :: R) := by
  have := s.setPart (xs := vs) (p := 0) (by omega)
  rwa [splice_all h] at this

/-- A part of a row, cell by cell. -/
theorem St.rowPart (s : St W w (row b o us :: R)) (p : Nat) {xs ys : List Value} (h : us.drop p = xs ++ ys) : ∀ j u, xs[j]? = some u → w.cell? ⟨b, o + p + j, none⟩ = some u := fun j u hu => by
  rw [Nat.add_assoc]
  refine s.rowCell ?_
  rw [← List.getElem?_drop, h, List.getElem?_append_left]
  · exact hu
  · rcases Nat.lt_or_ge j xs.length with g | g
    · exact g
    · rw [List.getElem?_eq_none g] at hu; cases hu

theorem St.rowAll (s : St W w (row b o us :: R)) : ∀ j u, us[j]? = some u → w.cell? ⟨b, o + j, none⟩ = some u := fun _ _ hu => s.rowCell hu

end

end Go.Qd
