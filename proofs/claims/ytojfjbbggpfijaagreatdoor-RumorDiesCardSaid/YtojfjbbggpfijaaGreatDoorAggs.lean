/- Aggs: several texts, joined. Structs by value in a fenced walk: load, store, alloc; what they keep. -/
import Derived.Test.YtojfjbbggpfijaaGreatDoorLib
import Derived.RangeFuncBox
import Derived.RangeFuncNested
import Derived.RangeFuncLeaves
import Derived.OwnWalkIn
import Derived.TacticsInMore
import Derived.LoopNIn
import Derived.LoopIn
import Derived.Maps.AppendAt
namespace Go.Qd
open Go.RowKit

section
variable {F : Fence} {m : Nat} {P : Program} {w : World} {t : TypeId} {n b o : Nat} {vs us : List Value}
variable {ops : Array Oper} {rest : List Oper} {q : Oper} {A : Act} {Q : Exit → Act → World → Prop}

theorem wplI_loadA (hgd : q.guard = none) (x : Operand) (hop : q.op = Op.load t x) (T : AggT P t n) (hx : A.eval x = .pointer (some ⟨b, o, none⟩)) (hl : vs.length = n) (hc : ∀ j u, vs[j]? = some u → w.cell? ⟨b, o + j, none⟩ = some u)
    (hK : wpListIn F m P ops Q rest (A.put q.dst (.agg vs.toArray)) w) : wpListIn F m P ops Q (q :: rest) A w := by
  refine wpListIn_plain hgd fun K hK' => ?_
  unfold Oper.wpIn
  refine ⟨?_, ?_⟩
  · simp [Oper.about, hop]
  · rw [Oper.semAt_plain F _ _ (by rw [hop]; intro c hc'; cases hc')]
    simp [execOp, hop, hx, Instr.loadAt, Instr.sureAddr, run_loadA T hl hc, Result.andThen]
    exact hK' _ _ hK

theorem wplI_allocA (hgd : q.guard = none) (hop : q.op = Op.alloc t) (hz : ∀ w, (zeroValue t).run P w = .ok (.agg vs.toArray) w)
    (hK : wpListIn F m P ops Q rest (A.put q.dst (.pointer (some ⟨w.heap.size, 0, none⟩))) (w.alloc (.cells vs.toArray t))) : wpListIn F m P ops Q (q :: rest) A w := by
  refine wpListIn_plain hgd fun K hK' => ?_
  unfold Oper.wpIn
  refine ⟨?_, ?_⟩
  · simp [Oper.about, hop]
  · rw [Oper.semAt_plain F _ _ (by rw [hop]; intro c hc'; cases hc')]
    simp [execOp, hop, Instr.alloc, newVar, newRow, Value.cells, Result.andThen, hz]
    exact hK' _ _ hK

theorem wplI_storeA (hgd : q.guard = none) (x y : Operand) (hop : q.op = Op.store t x y) (T : AggT P t n) (hx : A.eval x = .pointer (some ⟨b, o, none⟩)) (hy : A.eval y = .agg vs.toArray) (hr : roomG w b o n) (ho : oneG vs n)
    (hK : wpListIn F m P ops Q rest (A.put q.dst undef) (w.setCells b o vs)) : wpListIn F m P ops Q (q :: rest) A w := by
  refine wpListIn_plain hgd fun K hK' => ?_
  have hst := run_storeG T hr ho
  unfold storeG at hst
  unfold Oper.wpIn
  refine ⟨?_, ?_⟩
  · simp [Oper.about, hop]
  · rw [Oper.semAt_plain F _ _ (by rw [hop]; intro c hc'; cases hc')]
    simp [execOp, hop, hx, hy, hst, Result.andThen]
    exact hK' _ _ hK

theorem keeps_setCells (b : Nat) : ∀ (vs : List Value) (o : Nat) (w : World), KeepsOthers w (w.setCells b o vs)
  | [], _, w => KeepsOthers.refl w
  | _ :: vs, o, w => (KeepsOthers.setCell w ⟨b, o, none⟩ _).trans (keeps_setCells b vs (o + 1) _)
theorem cell_of_heap {w : World} {b j : Nat} {cs : Array Value} {e : TypeId} (hh : w.heap[b]? = some (.cells cs e (0, 0))) : w.cell? ⟨b, j, none⟩ = cs[j]? ∧ w.frozen? ⟨b, j, none⟩ = false := by
  constructor
  · unfold World.cell?; simp only [hh]; simp
  · unfold World.frozen?; simp only [hh]; simp
/-- A block that was just made, all its cells stored. -/
theorem new_room (w : World) (e : TypeId) (h : vs.length = n) : roomG (w.alloc (.cells vs.toArray e)) w.heap.size 0 n := fun j hj => by
  have hh : (w.alloc (.cells vs.toArray e)).heap[w.heap.size]? = some (.cells vs.toArray e (0, 0)) := World.alloc_heap_new w _
  obtain ⟨h1, h2⟩ := cell_of_heap (j := 0 + j) hh
  refine ⟨?_, h2⟩
  rw [h1, Nat.zero_add, List.getElem?_toArray, List.getElem?_eq_getElem (by omega)]; rfl
theorem new_cells (w : World) (e : TypeId) (hl : us.length = vs.length) : ∀ j u, us[j]? = some u → ((w.alloc (.cells vs.toArray e)).setCells w.heap.size 0 us).cell? ⟨w.heap.size, j, none⟩ = some u := by
  intro j u hu
  have hr := new_room (n := vs.length) w e rfl
  have hj : j < us.length := by
    rcases Nat.lt_or_ge j us.length with g | g
    · exact g
    · rw [List.getElem?_eq_none g] at hu; cases hu
  have := World.cell?_setCells_in w.heap.size us 0 (w.alloc (.cells vs.toArray e)) (fun i hi => (hr i (by omega)).1) j hj
  rw [Nat.zero_add] at this
  rw [this, ← hu, List.getElem?_eq_getElem hj]
theorem new_grown (w : World) (e : TypeId) : w.grownBy ((w.alloc (.cells vs.toArray e)).setCells w.heap.size 0 us) none := by
  have key : ∀ (us : List Value) (o : Nat) (w' : World), w.heap.size ≤ w'.heap.size → w'.os = w.os → w'.tape = w.tape → w'.output = w.output → (∀ k, k < w.heap.size → w'.heap[k]? = w.heap[k]?) → w.grownBy (w'.setCells w.heap.size o us) none := by
    intro us
    induction us with
    | nil => intro o w' h1 h2 h3 h4 h5; exact ⟨h2, h3, h4, h1, fun k hk _ => h5 k hk⟩
    | cons u us ih =>
      intro o w' h1 h2 h3 h4 h5
      refine ih (o + 1) (w'.setCell ⟨w.heap.size, o, none⟩ u) (Nat.le_trans h1 (KeepsWalks.setCell w' _ u).size) h2 h3 h4 fun k hk => ?_
      exact (Below.heap_setCell w' ⟨w.heap.size, o, none⟩ u k (by show k ≠ w.heap.size; omega)).trans (h5 k hk)
  exact key us 0 _ (by simp) rfl rfl rfl fun k hk => Below.heap_alloc w _ k hk

theorem RdS.at0 {n₀ : Nat} {W w : World} {sz n c : Nat} {ao : Option Addr} {cs : List Value} (h : RdS W sz ao n c cs) (hb : 0 < cs.length → ∀ a, ao = some a → a.block < n₀) (hB : Below n₀ W w) : RdS w sz ao n c cs :=
  ⟨h.len, h.le, h.max, h.nil, h.addr, fun a ha i u hu => by
    have := h.cell a ha i u hu
    refine (hB.cell (p := a.add i) ?_).trans this
    have := hb (by
      rcases Nat.eq_zero_or_pos cs.length with g | g
      · rw [List.eq_nil_of_length_eq_zero g] at hu; simp at hu
      · exact g) a ha
    rwa [show (a.add i).block = a.block by unfold Addr.add; split <;> rfl], h.one⟩
theorem RdS.low {w : World} {sz n c : Nat} {ao : Option Addr} {cs : List Value} (h : RdS w sz ao n c cs) (hn : 0 < cs.length) : ∀ a, ao = some a → a.block < w.heap.size := fun a ha => by
  have := h.cell a ha 0 cs[0] (List.getElem?_eq_getElem hn)
  have h2 := World.block_lt_of_cell? w _ this
  rwa [show (a.add 0).block = a.block by unfold Addr.add; split <;> rfl] at h2
end
end Go.Qd

/- Structs by value in a region that draws: alloc as an arm of go_region_law. -/
namespace Go.Qd
open Go.RowKit
section
variable {P : Program} {W w : World} {R : List HP} {t : TypeId} {n b o : Nat} {vs us : List Value}
variable {ops : Array Oper} {q : Oper} {A : Act} {Q : Exit → Act → World → Prop} {KK : Act → World → Prop} {EE : Prop}

end
end Go.Qd
