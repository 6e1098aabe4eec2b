/- RovA: several texts, joined. The document's overlay: its value, and what it has in memory. -/
import Derived.Test.YtbpdchaeakihkaaGreatLetS
import Derived.Test.YtbpdchaeakihkaaGreatRefA
import Derived.Deep.RegionLaw
import Derived.Deep.DeepCutAuto
import Derived.Test.YtbpdchaeakihkaaGreatRefs
import Derived.Test.YtbpdchaeakihkaaGreatPaths
namespace Go.Proofs.YtbpdchaeakihkaaGreat
open Go.RowKit Go.Qd

/-- The document's overlay: the same state, and where its lists lie. -/
structure RO where
  o : OV
  da : Option Addr
  dn : Nat
  dc : Nat
  la : Option Addr
  ln : Nat
  lc : Nat
  ca : Option Addr
  cn : Nat
  cc : Nat
def RO.cells (x : RO) : List Value :=
  ivs x.o.cfg ++ (refCells x.o.V ++ ([.slice x.da x.dn x.dc] ++ ([.int .i64 x.o.ticks] ++ (ivs x.o.heard ++ ([.int .i64 x.o.asked] ++ ([.int .i64 x.o.since] ++ ([.slice x.la x.ln x.lc] ++ [.slice x.ca x.cn x.cc])))))))
/-- As long as it should be. -/
def RO.ok (x : RO) : Prop := x.o.cfg.length = 20 ∧ x.o.heard.length = 12
theorem OOK.ro {x : RO} (h : OOK x.o) : x.ok := ⟨h.cl, h.hl⟩
/-! With one part changed. -/
def RO.withD (x : RO) (D : List Int) (a : Option Addr) (n c : Nat) : RO := { x with o := { x.o with D := D }, da := a, dn := n, dc := c }
def RO.withT (x : RO) (t : Int) : RO := { x with o := { x.o with ticks := t } }
def RO.withA (x : RO) (t : Int) : RO := { x with o := { x.o with asked := t } }
def RO.withS (x : RO) (t : Int) : RO := { x with o := { x.o with since := t } }
def RO.withL (x : RO) (L : List LetV) (a : Option Addr) (n c : Nat) : RO := { x with o := { x.o with L := L }, la := a, ln := n, lc := c }
def RO.withC (x : RO) (C : List (Int × Bool)) (a : Option Addr) (n c : Nat) : RO := { x with o := { x.o with C := C }, ca := a, cn := n, cc := c }
def RO.withH (x : RO) (H : List Int) : RO := { x with o := { x.o with heard := H } }
def RO.withV (x : RO) (V : VV) : RO := { x with o := { x.o with V := V } }
def psR (W : World) (L : List LetV) : HP := sepL (L.map fun y => RdH W 1 y.m.pa y.m.pn y.m.pc (ivs y.m.ps))
/-- Its lists. -/
def RO.mem (W : World) (x : RO) : HP := sepL [RdH W 1 x.da x.dn x.dc (ivs x.o.D), OwnS 13 x.la x.ln x.lc (letC x.o.L), OwnS 2 x.ca x.cn x.cc (chC x.o.C), psR W x.o.L]
theorem RO.len {x : RO} (h : x.ok) : x.cells.length = 65 := by
  obtain ⟨h1, h2⟩ := h
  simp only [RO.cells, List.length_append, ivs_length, refCells_len, h1, h2, List.length_cons, List.length_nil]
theorem ivs_one (l : List Int) : ∀ u ∈ ivs l, u.oneCell' = true := by
  intro u hu
  obtain ⟨x, _, rfl⟩ := List.mem_map.1 hu
  rfl
theorem RO.one (x : RO) : ∀ u ∈ x.cells, u.oneCell' = true := by
  intro u hu
  simp only [RO.cells, List.mem_append, List.mem_cons, List.not_mem_nil, or_false] at hu
  rcases hu with h | h | rfl | rfl | h | rfl | rfl | rfl | rfl
  · exact ivs_one _ u h
  · exact refCells_one _ u h
  · rfl
  · rfl
  · exact ivs_one _ u h
  · rfl
  · rfl
  · rfl
  · rfl
theorem aggRO : AggT Tryz.prog 96 65 := ⟨⟨_, Tryz.underlying96, rfl⟩, by kernel_rfl⟩
def zeroRO : RO := ⟨⟨⟨0, [], 0, [], 0⟩, [], [], List.replicate 20 0, [], List.replicate 12 0, 0, 0, 0⟩, none, 0, 0, none, 0, 0, none, 0, 0⟩
theorem zeroRO_z (w : World) : (zeroValue 96).run Tryz.prog w = .ok (.agg zeroRO.cells.toArray) w := by kernel_rfl
theorem zeroRO_len : zeroRO.cells.length = 65 := RO.len ⟨rfl, rfl⟩

section
variable {W w : World} {R : List HP} {B : Nat} {x : RO}

/-- A box of it, in parts. -/
theorem RO.parts (h : x.ok) : St W w (row B 0 x.cells :: R) ↔ St W w (row B 0 (ivs x.o.cfg) :: row B 20 (refCells x.o.V) :: row B 47 [.slice x.da x.dn x.dc] :: row B 48 [.int .i64 x.o.ticks] :: row B 49 (ivs x.o.heard) ::
    row B 61 [.int .i64 x.o.asked] :: row B 62 [.int .i64 x.o.since] :: row B 63 [.slice x.la x.ln x.lc] :: row B 64 [.slice x.ca x.cn x.cc] :: R) := by
  obtain ⟨h1, h2⟩ := h
  have cut : ∀ {o o' : Nat} {xs ys : List Value} {L M : List HP}, o + xs.length = o' → (St W w (L ++ (row B o (xs ++ ys) :: M)) ↔ St W w (L ++ (row B o xs :: row B o' ys :: M))) := by
    intro o o' xs ys L M e
    subst e
    constructor
    · intro s
      have s1 := (St.flat (R := row B o (xs ++ ys) :: M) L).2 s
      have s2 := St.rowAppend.1 (St.pick 1 s1)
      exact (St.flat L).1 (s2.perm [2, 0, 0])
    · intro s
      have s1 := (St.flat (R := row B o xs :: row B (o + xs.length) ys :: M) L).2 s
      have s2 : St W w (row B o (xs ++ ys) :: sepL L :: M) := St.rowAppend.2 (s1.perm [1, 1, 0])
      exact (St.flat L).1 (St.pick 1 s2)
  unfold RO.cells
  refine (cut (L := []) (o' := 20) (by rw [ivs_length, h1])).trans ?_
  refine (cut (L := [_]) (o' := 47) (by rw [refCells_len])).trans ?_
  refine (cut (L := [_, _]) (o' := 48) rfl).trans ?_
  refine (cut (L := [_, _, _]) (o' := 49) rfl).trans ?_
  refine (cut (L := [_, _, _, _]) (o' := 61) (by rw [ivs_length, h2])).trans ?_
  refine (cut (L := [_, _, _, _, _]) (o' := 62) rfl).trans ?_
  refine (cut (L := [_, _, _, _, _, _]) (o' := 63) rfl).trans ?_
  exact cut (L := [_, _, _, _, _, _, _]) (o' := 64) rfl

theorem RO.memO (s : St W w (x.mem W :: R)) : St W w (RdH W 1 x.da x.dn x.dc (ivs x.o.D) :: OwnS 13 x.la x.ln x.lc (letC x.o.L) :: OwnS 2 x.ca x.cn x.cc (chC x.o.C) :: psR W x.o.L :: R) := (St.flat _).1 s
theorem RO.memC (s : St W w (RdH W 1 x.da x.dn x.dc (ivs x.o.D) :: OwnS 13 x.la x.ln x.lc (letC x.o.L) :: OwnS 2 x.ca x.cn x.cc (chC x.o.C) :: psR W x.o.L :: R)) : St W w (x.mem W :: R) :=
  (St.flat [RdH W 1 x.da x.dn x.dc (ivs x.o.D), OwnS 13 x.la x.ln x.lc (letC x.o.L), OwnS 2 x.ca x.cn x.cc (chC x.o.C), psR W x.o.L]).2 s
theorem psR_snoc {L : List LetV} {y : LetV} (s : St W w (psR W L :: RdH W 1 y.m.pa y.m.pn y.m.pc (ivs y.m.ps) :: R)) : St W w (psR W (L ++ [y]) :: R) := by
  unfold psR at s ⊢
  have s1 := (St.flat (R := RdH W 1 y.m.pa y.m.pn y.m.pc (ivs y.m.ps) :: R) _).1 s
  have e : (L ++ [y]).map (fun y : LetV => RdH W 1 y.m.pa y.m.pn y.m.pc (ivs y.m.ps)) ++ R = L.map (fun y : LetV => RdH W 1 y.m.pa y.m.pn y.m.pc (ivs y.m.ps)) ++ (RdH W 1 y.m.pa y.m.pn y.m.pc (ivs y.m.ps) :: R) := by simp
  rw [← e] at s1
  exact (St.flat _).2 s1
/-- The whole of a box. -/
theorem roLd (h : x.ok) (s : St W w (row B 0 x.cells :: R)) : (loadG 96 (.pointer (some ⟨B, 0, none⟩))).run Tryz.prog w = .ok (.agg x.cells.toArray) w := run_loadG (o := 0) aggRO (RO.len h) s.rowAll
theorem row1f {o : Nat} {v : Value} (s : St W w (row B o [v] :: R)) : w.frozen? ⟨B, o, none⟩ = false := by have := St.rowFree s (i := 0) Nat.zero_lt_one; rwa [Nat.add_zero] at this
theorem row1s {o : Nat} {v : Value} (u : Value) (s : St W w (row B o [v] :: R)) : St W (w.setCell ⟨B, o, none⟩ u) (row B o [u] :: R) := by have := s.rowSet (i := 0) Nat.zero_lt_one u; rwa [Nat.add_zero] at this

/-- The cells of a box that are asked for by themselves. -/
theorem roC (h : x.ok) (s : St W w (row B 0 x.cells :: R)) :
    w.cell? ⟨B, 0, none⟩ = some (.int .i64 (x.o.cfg.getD 0 0)) ∧ w.cell? ⟨B, 20, none⟩ = some (.int .i64 x.o.V.self) ∧ w.cell? ⟨B, 47, none⟩ = some (.slice x.da x.dn x.dc) ∧ w.cell? ⟨B, 48, none⟩ = some (.int .i64 x.o.ticks) ∧
    w.cell? ⟨B, 61, none⟩ = some (.int .i64 x.o.asked) ∧ w.cell? ⟨B, 62, none⟩ = some (.int .i64 x.o.since) ∧ w.cell? ⟨B, 63, none⟩ = some (.slice x.la x.ln x.lc) ∧ w.cell? ⟨B, 64, none⟩ = some (.slice x.ca x.cn x.cc) := by
  have p := (RO.parts h).1 s
  refine ⟨?_, ?_, row1c (St.pick 2 p), row1c (St.pick 3 p), row1c (St.pick 5 p), row1c (St.pick 6 p), row1c (St.pick 7 p), row1c (St.pick 8 p)⟩
  · exact cfg_at p (by have := h.1; omega)
  · have := (St.pick 1 p).rowCell (refCells_self x.o.V); rwa [Nat.add_zero] at this
/-- They may be stored to. -/
theorem roF (h : x.ok) (s : St W w (row B 0 x.cells :: R)) (i : Nat) (hi : i < 65) : w.frozen? ⟨B, i, none⟩ = false := by
  have := St.rowFree s (i := i) (by rw [RO.len h]; exact hi)
  rwa [Nat.zero_add] at this
theorem roLdV (h : x.ok) (s : St W w (row B 0 x.cells :: R)) : (loadG 93 (.pointer (some ⟨B, 20, none⟩))).run Tryz.prog w = .ok (.agg (refCells x.o.V).toArray) w :=
  run_loadG aggRV (refCells_len _) (St.pick 1 ((RO.parts h).1 s)).rowAll
theorem roAct (h : x.ok) (s : St W w (row B 0 x.cells :: R)) {k : Nat} (hk : k < 12) : w.cell? ⟨B, 20 + 1 + k, none⟩ = some (.bool (memB x.o.V.a (k : Int))) := by
  have := (St.pick 1 ((RO.parts h).1 s)).rowCell (refCells_a (V := x.o.V) hk)
  rwa [← Nat.add_assoc] at this
theorem roHeard (h : x.ok) (s : St W w (row B 0 x.cells :: R)) {k : Nat} (hk : k < 12) : w.cell? ⟨B, 49 + k, none⟩ = some (.int .i64 (x.o.heard.getD k 0)) :=
  cfg_off (St.pick 4 ((RO.parts h).1 s)) (by have := h.2; omega)
theorem roBits (h : x.ok) (s : St W w (row B 0 x.cells :: R)) : (loadG 83 (.pointer (some ⟨B, 21, none⟩))).run Tryz.prog w = .ok (.agg (bits x.o.V.a).toArray) w ∧ (loadG 83 (.pointer (some ⟨B, 33, none⟩))).run Tryz.prog w = .ok (.agg (bits x.o.V.p).toArray) w := by
  have p := St.pick 1 ((RO.parts h).1 s)
  refine ⟨run_loadG (o := 20 + 1) aggB12 (bits_len _) (fun j u hu => ?_), run_loadG (o := 20 + 13) aggB12 (bits_len _) (fun j u hu => ?_)⟩
  · have hj : j < 12 := by
      rcases Nat.lt_or_ge j 12 with g | g
      · exact g
      · rw [List.getElem?_eq_none (by rw [bits_len]; exact g)] at hu; cases hu
    rw [bits_get hj] at hu
    cases hu
    have := p.rowCell (refCells_a (V := x.o.V) hj)
    rwa [← Nat.add_assoc] at this
  · have hj : j < 12 := by
      rcases Nat.lt_or_ge j 12 with g | g
      · exact g
      · rw [List.getElem?_eq_none (by rw [bits_len]; exact g)] at hu; cases hu
    rw [bits_get hj] at hu
    cases hu
    have := p.rowCell (refCells_p (V := x.o.V) hj)
    rwa [← Nat.add_assoc] at this

/-! Stores into a box. -/
theorem roSetD (h : x.ok) (s : St W w (row B 0 x.cells :: R)) (D : List Int) (a : Option Addr) (n c : Nat) : St W (w.setCell ⟨B, 47, none⟩ (.slice a n c)) (row B 0 (x.withD D a n c).cells :: R) := by
  have p := row1s (.slice a n c) (St.pick 2 ((RO.parts h).1 s))
  exact (RO.parts (x := x.withD D a n c) h).2 (p.perm [1, 1])
theorem roSetT (h : x.ok) (s : St W w (row B 0 x.cells :: R)) (t : Int) : St W (w.setCell ⟨B, 48, none⟩ (.int .i64 t)) (row B 0 (x.withT t).cells :: R) := by
  have p := row1s (.int .i64 t) (St.pick 3 ((RO.parts h).1 s))
  exact (RO.parts (x := x.withT t) h).2 (p.perm [1, 1, 1])
theorem roSetA (h : x.ok) (s : St W w (row B 0 x.cells :: R)) (t : Int) : St W (w.setCell ⟨B, 61, none⟩ (.int .i64 t)) (row B 0 (x.withA t).cells :: R) := by
  have p := row1s (.int .i64 t) (St.pick 5 ((RO.parts h).1 s))
  exact (RO.parts (x := x.withA t) h).2 (p.perm [1, 1, 1, 1, 1])
theorem roSetS (h : x.ok) (s : St W w (row B 0 x.cells :: R)) (t : Int) : St W (w.setCell ⟨B, 62, none⟩ (.int .i64 t)) (row B 0 (x.withS t).cells :: R) := by
  have p := row1s (.int .i64 t) (St.pick 6 ((RO.parts h).1 s))
  exact (RO.parts (x := x.withS t) h).2 (p.perm [1, 1, 1, 1, 1, 1])
theorem roSetL (h : x.ok) (s : St W w (row B 0 x.cells :: R)) (L : List LetV) (a : Option Addr) (n c : Nat) : St W (w.setCell ⟨B, 63, none⟩ (.slice a n c)) (row B 0 (x.withL L a n c).cells :: R) := by
  have p := row1s (.slice a n c) (St.pick 7 ((RO.parts h).1 s))
  exact (RO.parts (x := x.withL L a n c) h).2 (p.perm [1, 1, 1, 1, 1, 1, 1])
theorem roSetC (h : x.ok) (s : St W w (row B 0 x.cells :: R)) (C : List (Int × Bool)) (a : Option Addr) (n c : Nat) : St W (w.setCell ⟨B, 64, none⟩ (.slice a n c)) (row B 0 (x.withC C a n c).cells :: R) := by
  have p := row1s (.slice a n c) (St.pick 8 ((RO.parts h).1 s))
  exact (RO.parts (x := x.withC C a n c) h).2 (p.perm [1, 1, 1, 1, 1, 1, 1, 1])
theorem roSetH (h : x.ok) (s : St W w (row B 0 x.cells :: R)) {k : Nat} (hk : k < 12) (t : Int) : St W (w.setCell ⟨B, 49 + k, none⟩ (.int .i64 t)) (row B 0 (x.withH (x.o.heard.set k t)).cells :: R) := by
  have p := (St.pick 4 ((RO.parts h).1 s)).rowSet (i := k) (by rw [ivs_length, h.2]; exact hk) (.int .i64 t)
  have e : (ivs x.o.heard).set k (.int .i64 t) = ivs (x.o.heard.set k t) := by unfold ivs; rw [List.map_set]
  rw [e] at p
  exact (RO.parts (x := x.withH (x.o.heard.set k t)) ⟨h.1, by show (x.o.heard.set k t).length = 12; rw [List.length_set]; exact h.2⟩).2 (p.perm [1, 1, 1, 1])
/-- The views are stored as a whole. -/
theorem roPutV (h : x.ok) (s : St W w (row B 0 x.cells :: R)) : St W w (row B 20 (refCells x.o.V) :: row B 0 (ivs x.o.cfg) :: row B 47 [.slice x.da x.dn x.dc] :: row B 48 [.int .i64 x.o.ticks] :: row B 49 (ivs x.o.heard) ::
    row B 61 [.int .i64 x.o.asked] :: row B 62 [.int .i64 x.o.since] :: row B 63 [.slice x.la x.ln x.lc] :: row B 64 [.slice x.ca x.cn x.cc] :: R) := St.pick 1 ((RO.parts h).1 s)
theorem roGotV (h : x.ok) {V : VV} (s : St W w (row B 20 (refCells V) :: row B 0 (ivs x.o.cfg) :: row B 47 [.slice x.da x.dn x.dc] :: row B 48 [.int .i64 x.o.ticks] :: row B 49 (ivs x.o.heard) ::
    row B 61 [.int .i64 x.o.asked] :: row B 62 [.int .i64 x.o.since] :: row B 63 [.slice x.la x.ln x.lc] :: row B 64 [.slice x.ca x.cn x.cc] :: R)) : St W w (row B 0 (x.withV V).cells :: R) := (RO.parts (x := x.withV V) h).2 (s.perm [1])
end

end Go.Proofs.YtbpdchaeakihkaaGreat

/- The document's overlay: There, Node, Fresh, turn, send. -/
namespace Go.Proofs.YtbpdchaeakihkaaGreat
open Go.RowKit Go.Qd

theorem execOp_ldRO (ρ : Operand → Value) (dst : Option Tmp) (a : Operand) (ty : TypeId) (pos : String) (after : Array Edge) (guard : Option (Nat × Bool)) :
    execOp ρ { dst, op := .load 96 a, type := ty, pos, after, guard } = (do pure (.value (← loadG 96 (ρ a)))) := rfl
theorem execOp_ldRM2 (ρ : Operand → Value) (dst : Option Tmp) (a : Operand) (ty : TypeId) (pos : String) (after : Array Edge) (guard : Option (Nat × Bool)) :
    execOp ρ { dst, op := .load 75 a, type := ty, pos, after, guard } = (do pure (.value (← loadG 75 (ρ a)))) := rfl
theorem Tryz.elem94 : ElemT Tryz.prog 94 143 2 16 := ElemT.mk' Tryz.underlying94 (by kernel_rfl : (Tryz.prog.info? 143).map (fun i => (i.zero, i.size, i.bytes)) = some (some (.agg #[.int .i64 0, .bool false]), 2, 16)) rfl (by decide) (by simp [Value.cells, Value.oneCell'])
theorem execOp_buildCT (ρ : Operand → Value) (dst : Option Tmp) (a c : Operand) (ty : TypeId) (pos : String) (after : Array Edge) (guard : Option (Nat × Bool)) :
    execOp ρ { dst, op := .build 143 #[(0, a), (1, c)], type := ty, pos, after, guard } = (do pure (.value (← buildG 143 (ρ a) (ρ c)))) := by simp [execOp, buildG]
theorem execOp_bsCT (ρ : Operand → Value) (dst : Option Tmp) (a : Operand) (ty : TypeId) (pos : String) (after : Array Edge) (guard : Option (Nat × Bool)) :
    execOp ρ { dst, op := .buildSlice 94 1 #[(0, a)], type := ty, pos, after, guard } = (do pure (.value (← bsG 94 (ρ a)))) := by simp [execOp, bsG]
theorem run_buildCT (p : Int) (u : Bool) (w : World) : (buildG 143 (.int .i64 p) (.bool u)).run Tryz.prog w = .ok (.agg #[.int .i64 p, .bool u]) w := by kernel_rfl
theorem run_bsCT (p : Int) (u : Bool) (w : World) : (bsG 94 (.agg #[.int .i64 p, .bool u])).run Tryz.prog w = .ok (.slice (some ⟨w.heap.size, 0, none⟩) 1 1) (w.alloc (.cells #[.int .i64 p, .bool u] 143)) := by kernel_rfl
theorem ch_ones (p : Int) (u : Bool) : ∀ v ∈ [Value.int .i64 p, .bool u], v.oneCell' = true := by
  intro v hv
  simp only [List.mem_cons, List.not_mem_nil, or_false] at hv
  rcases hv with rfl | rfl <;> rfl
attribute [local go_sem ↓] execOp_ldRM2 execOp_buildLT execOp_bsLT execOp_buildCT execOp_bsCT
attribute [local go_sem] run_buildLT run_bsLT run_buildCT run_bsCT

section
variable {W w : World} {R : List HP} {post : Ending → World → Prop} {x : RO} {p : Int}

set_option maxRecDepth 100000 in
set_option maxHeartbeats 1000000 in
theorem rthere_c (h : x.ok) (st : St W w R) (K : ∀ w', St W w' R → post (.returned (.bool (thereB x.o p))) w') : Calls Tryz.prog 157 #[.agg x.cells.toArray, .int .i64 p] w post := by
  have HH := hid h
  unfold thereB at K
  by_cases h0 : 0 ≤ p
  · rw [decide_eq_true h0, Bool.true_and] at K
    have HK := hid K; clear K
    clear h
    go_enter Tryz.func157, Tryz.ntmps157
    go_wp2_with (refine wpl_boxA (vs := x.cells) rfl (.tmp 0) rfl rfl st ?_; rintro B w1 s1; obtain ⟨c0, _⟩ := roC HH.out s1)
    exact HK.out _ s1.drop
  · rw [decide_eq_false h0, Bool.false_and] at K
    have HK := hid K; clear K
    clear h
    have hd : decide (0 ≤ p) = false := decide_eq_false h0
    clear h0
    go_enter Tryz.func157, Tryz.ntmps157
    go_wp2_with (refine wpl_boxA (vs := x.cells) rfl (.tmp 0) rfl rfl st ?_; rintro B w1 s1; obtain ⟨c0, _⟩ := roC HH.out s1)
    exact HK.out _ s1.drop

set_option maxRecDepth 100000 in
set_option maxHeartbeats 1000000 in
theorem rnodeO_c (h : x.ok) (st : St W w R) (K : ∀ w', St W w' R → post (.returned (.bool (onodeB x.o p))) w') : Calls Tryz.prog 117 #[.agg x.cells.toArray, .int .i64 p] w post := by
  have HH := hid h
  clear h
  unfold onodeB at K
  obtain ⟨t, ht⟩ : ∃ t, thereB x.o p = t := ⟨_, rfl⟩
  rw [ht] at K
  have HT := hid ht
  clear ht
  have hne : decide (p ≠ x.o.V.self) = (p != x.o.V.self) := by by_cases g : p = x.o.V.self <;> simp [g]
  rw [hne] at K
  clear hne
  cases t with
  | false =>
    rw [Bool.false_and] at K
    have HK := hid K; clear K
    go_enter Tryz.func117, Tryz.ntmps117
    go_wp2_with (first
      | (refine wpl_boxA (vs := x.cells) rfl (.tmp 0) rfl rfl st ?_; rintro B w1 s1)
      | (refine wpl_loadA (vs := x.cells) rfl (.tmp 2) (by rfl) aggRO (by rfl) (RO.len HH.out) s1.rowAll ?_)
      | (go_at_call 157; refine rthere_c HH.out s1 ?_; rintro w2 s2; rw [HT.out]))
    exact HK.out _ s2.drop
  | true =>
    rw [Bool.true_and] at K
    have HK := hid K; clear K
    go_enter Tryz.func117, Tryz.ntmps117
    go_wp2_with (first
      | (refine wpl_boxA (vs := x.cells) rfl (.tmp 0) rfl rfl st ?_; rintro B w1 s1)
      | (refine wpl_loadA (vs := x.cells) rfl (.tmp 2) (by rfl) aggRO (by rfl) (RO.len HH.out) s1.rowAll ?_)
      | (go_at_call 157; refine rthere_c HH.out s1 ?_; rintro w2 s2; rw [HT.out]; obtain ⟨_, c1, _⟩ := roC HH.out s2))
    exact HK.out _ s2.drop

/-- The document's overlay without what came about. -/
def RO.fresh (x : RO) : RO := { x with o := freshO x.o, la := none, ln := 0, lc := 0, ca := none, cn := 0, cc := 0 }
theorem RO.freshM (s : St W w (x.mem W :: R)) : St W w (x.fresh.mem W :: R) := by
  have d : St W w (RdH W 1 x.da x.dn x.dc (ivs x.o.D) :: R) := (St.pick 1 (St.drop (St.pick 1 (St.drop (St.pick 1 (RO.memO s)))))).drop
  have e : St W w (psR W [] :: RdH W 1 x.da x.dn x.dc (ivs x.o.D) :: R) := (St.flat []).2 d
  have f := OwnS.none0 (sz := 13) (OwnS.none0 (sz := 2) e)
  exact RO.memC (x := x.fresh) (f.perm [3, 0, 0, 0])

set_option maxRecDepth 100000 in
set_option maxHeartbeats 1000000 in
theorem rfresh_c (h : x.ok) (st : St W w (x.mem W :: R)) (K : ∀ (x' : RO) w', x'.o = freshO x.o → St W w' (x'.mem W :: R) → post (.returned (.agg x'.cells.toArray)) w') : Calls Tryz.prog 116 #[.agg x.cells.toArray] w post := by
  have HH := hid h
  have HF : Hid (x.fresh.ok) := hid h
  have HK := hid K; clear K
  clear h
  go_enter Tryz.func116, Tryz.ntmps116
  go_wp2_with (first
    | (refine wpl_boxA (vs := x.cells) rfl (.tmp 0) rfl rfl st ?_; rintro B w1 s1)
    | (refine wpl_allocA rfl rfl zeroRO_z s1 ?_; rintro E w2 s2
       have s3 := St.pick 1 s2
       obtain ⟨_, _, _, _, _, _, c63, _⟩ := roC HH.out s3
       have f63 := roF HH.out s3 63 (by decide)
       have s4 := roSetL HH.out s3 [] none 0 0
       obtain ⟨_, _, _, _, _, _, _, c64⟩ := roC (x := x.withL [] none 0 0) HH.out s4
       have f64 := roF (x := x.withL [] none 0 0) HH.out s4 64 (by decide)
       have s5 := roSetC (x := x.withL [] none 0 0) HH.out s4 [] none 0 0)
    | (refine wpl_loadA (vs := x.fresh.cells) rfl (.tmp 1) (by rfl) aggRO (by rfl) (RO.len HF.out) (St.rowAll (o := 0) s5) ?_)
    | (refine wpl_storeA (vs := x.fresh.cells) rfl (.tmp 2) (.tmp 5) (by rfl) aggRO (by rfl) (by rfl) (RO.len HF.out) (RO.one _) (St.pick 1 s5) zeroRO_len ?_; rintro w6 s6))
  have hL := run_loadA aggRO (RO.len HF.out) s6.rowAll
  exact bodyPost_ret (v := .agg x.fresh.cells.toArray) (by simp [results, Tryz.results116, asAddr, hL, Act.put]) rfl (HK.out x.fresh _ rfl (RO.freshM (s6.dropN 2)))

/-- With a change more. -/
def turnO (O : OV) (p : Int) (u : Bool) : OV := { O with C := O.C ++ [(p, u)] }
def sendO (O : OV) (y : LetV) : OV := { O with L := O.L ++ [y] }

set_option maxRecDepth 100000 in
set_option maxHeartbeats 4000000 in
theorem rturn_c {u : Bool} (h : x.ok) (hn : x.o.C.length ≤ 1000) (st : St W w (x.mem W :: R)) (K : ∀ (x' : RO) w', x'.o = turnO x.o p u → St W w' (x'.mem W :: R) → post (.returned (.agg x'.cells.toArray)) w') : Calls Tryz.prog 159 #[.agg x.cells.toArray, .int .i64 p, .bool u] w post := by
  have HH := hid h
  have HK := hid K; clear K
  have hcl : x.o.C.length = x.cn := by have := (OwnS.rd (St.pick 2 (RO.memO st))).len; rw [chC_size] at this; omega
  have hb1 : (0 + x.cn) * 16 ≤ 140737488355328 := by omega
  have hm1 : 0 + x.cn ≤ maxLen := by unfold maxLen; omega
  have hb2 : (x.cn + 1) * 16 ≤ 140737488355328 := by omega
  have hm2 : x.cn + 1 ≤ maxLen := by unfold maxLen; omega
  clear h hn hcl
  go_enter Tryz.func159, Tryz.ntmps159
  go_wp2_with (first
    | (refine wpl_boxA (vs := x.cells) rfl (.tmp 0) rfl rfl st ?_; rintro B w1 s1)
    | (refine wpl_allocA rfl rfl zeroRO_z s1 ?_; rintro E w2 s2
       have s3 := (OwnS.empty (sz := 2) ((s2.alloc #[] 143).drop) (some ⟨w2.heap.size, 0, none⟩))
       have s4 := RO.memO (St.pick 3 s3)
       obtain ⟨_, _, _, _, _, _, _, c64⟩ := roC HH.out (St.pick 6 s4))
    | (at_builtin; first
        | (refine wpl_append rfl (.tmp 10) (.tmp 14) rfl Tryz.elem94 rfl rfl (St.pick 1 s6) (St.rowRd (sz := 2) (n := 1) s6 rfl (by decide) (ch_ones _ _)) hb2 hm2 ?_; rintro a7 c7 w7 s7
           obtain ⟨_, _, _, _, _, _, _, d64⟩ := roC HH.out (St.pick 7 s7)
           have f64 := roF HH.out (St.pick 7 s7) 64 (by decide)
           have s8 := roSetC HH.out (St.pick 7 s7) (x.o.C ++ [(p, u)]) a7 (x.cn + 1) c7)
        | (refine wpl_append rfl (.tmp 7) (.tmp 9) rfl Tryz.elem94 rfl rfl (St.pick 4 s4) (OwnS.rd (St.pick 2 s4)) hb1 hm1 ?_; rintro a5 c5 w5 s5; rw [List.nil_append, Nat.zero_add] at s5; rw [Nat.zero_add]
           have s6 := s5.alloc #[.int .i64 p, .bool u] 143))
    | (refine wpl_loadA (vs := (x.withC (x.o.C ++ [(p, u)]) a7 (x.cn + 1) c7).cells) rfl (.tmp 3) (by rfl) aggRO (by rfl) (RO.len HH.out) (St.rowAll (o := 0) s8) ?_)
    | (refine wpl_storeA (vs := (x.withC (x.o.C ++ [(p, u)]) a7 (x.cn + 1) c7).cells) rfl (.tmp 6) (.tmp 17) (by rfl) aggRO (by rfl) (by rfl) (RO.len HH.out) (RO.one _) (St.pick 7 s8) zeroRO_len ?_; rintro w9 s9))
  have hL := run_loadA aggRO (RO.len (x := x.withC (x.o.C ++ [(p, u)]) a7 (x.cn + 1) c7) HH.out) s9.rowAll
  have t := (St.drop (St.pick 3 (St.drop (St.pick 1 (s9.dropN 2))))).perm [1, 1]
  rw [show chC x.o.C ++ [Value.int .i64 p, .bool u] = chC (x.o.C ++ [(p, u)]) from (chC_snoc _ (p, u)).symm] at t
  exact bodyPost_ret (v := .agg (x.withC (x.o.C ++ [(p, u)]) a7 (x.cn + 1) c7).cells.toArray) (by simp [results, Tryz.results159, asAddr, hL]) rfl (HK.out (x.withC (x.o.C ++ [(p, u)]) a7 (x.cn + 1) c7) _ rfl (RO.memC (x := x.withC (x.o.C ++ [(p, u)]) a7 (x.cn + 1) c7) t))

theorem RO.sendM {y : LetV} {a : Option Addr} {c : Nat} (s : St W w (OwnS 13 a (x.ln + 1) c (letC x.o.L ++ y.cells) :: RdH W 1 x.da x.dn x.dc (ivs x.o.D) :: OwnS 2 x.ca x.cn x.cc (chC x.o.C) :: psR W x.o.L :: RdH W 1 y.m.pa y.m.pn y.m.pc (ivs y.m.ps) :: R)) :
    St W w ((x.withL (x.o.L ++ [y]) a (x.ln + 1) c).mem W :: R) := by
  rw [← letC_snoc] at s
  have t : St W w (psR W x.o.L :: RdH W 1 y.m.pa y.m.pn y.m.pc (ivs y.m.ps) :: OwnS 13 a (x.ln + 1) c (letC (x.o.L ++ [y])) :: RdH W 1 x.da x.dn x.dc (ivs x.o.D) :: OwnS 2 x.ca x.cn x.cc (chC x.o.C) :: R) := s.perm [3, 3]
  have t2 : St W w (RdH W 1 x.da x.dn x.dc (ivs x.o.D) :: OwnS 13 a (x.ln + 1) c (letC (x.o.L ++ [y])) :: OwnS 2 x.ca x.cn x.cc (chC x.o.C) :: psR W (x.o.L ++ [y]) :: R) := (psR_snoc t).perm [2, 1, 1]
  exact RO.memC (x := x.withL (x.o.L ++ [y]) a (x.ln + 1) c) t2

set_option maxRecDepth 100000 in
set_option maxHeartbeats 8000000 in
theorem rsend_c {m : MsgV} (h : x.ok) (hn : x.o.L.length ≤ 1000) (st : St W w (x.mem W :: RdH W 1 m.pa m.pn m.pc (ivs m.ps) :: R)) (K : ∀ (x' : RO) w', x'.o = sendO x.o ⟨p, m⟩ → St W w' (x'.mem W :: R) → post (.returned (.agg x'.cells.toArray)) w') :
    Calls Tryz.prog 118 #[.agg x.cells.toArray, .int .i64 p, .agg m.cells.toArray] w post := by
  have HH := hid h
  have HK := hid K; clear K
  have hcl : x.o.L.length = x.ln := by have := (OwnS.rd (St.pick 1 (RO.memO st))).len; rw [letC_size] at this; omega
  have hb1 : (0 + x.ln) * 160 ≤ 140737488355328 := by omega
  have hm1 : 0 + x.ln ≤ maxLen := by unfold maxLen; omega
  have hb2 : (x.ln + 1) * 160 ≤ 140737488355328 := by omega
  have hm2 : x.ln + 1 ≤ maxLen := by unfold maxLen; omega
  clear h hn hcl
  go_enter Tryz.func118, Tryz.ntmps118
  go_wp2_with (first
    | (refine wpl_boxA (vs := x.cells) rfl (.tmp 0) rfl rfl st ?_; rintro B w1 s1)
    | (refine wpl_boxA (vs := m.cells) rfl (.tmp 2) rfl rfl s1 ?_; rintro M w2 s2)
    | (refine wpl_allocA rfl rfl zeroRO_z s2 ?_; rintro E w3 s3))
  simp only [Act.put, List.setIfInBounds_toArray, List.set_cons_succ, List.set_cons_zero]
  go_cut [15] (fun v wx => ∃ (a : Option Addr) (c : Nat), v = .slice a (x.ln + 1) c ∧ St W wx (row E 0 zeroRO.cells :: row B 0 (x.withL (x.o.L ++ [⟨p, m⟩]) a (x.ln + 1) c).cells :: OwnS 13 a (x.ln + 1) c (letC x.o.L ++ LetV.cells ⟨p, m⟩) :: RdH W 1 x.da x.dn x.dc (ivs x.o.D) :: OwnS 2 x.ca x.cn x.cc (chC x.o.C) :: psR W x.o.L :: RdH W 1 m.pa m.pn m.pc (ivs m.ps) :: R))
  case first =>
    have lMa := run_loadG (o := 0) aggRM2 rfl (St.pick 1 s3.drew).rowAll
    have c63a := (roC HH.out (St.pick 2 s3.drew)).2.2.2.2.2.2.1
    have v4 := RO.memO (St.pick 4 (OwnS.empty (sz := 13) ((s3.alloc #[] 89).drew.drop) (some ⟨w3.heap.size, 0, none⟩)))
    have lMb := run_loadG (o := 0) aggRM2 rfl (St.pick 6 v4).rowAll
    have c63b := (roC HH.out (St.pick 7 v4)).2.2.2.2.2.2.1
    have vL := (s3.alloc (LetV.cells ⟨p, m⟩).toArray 89).drew
    have c63l := (roC HH.out (St.pick 3 vL)).2.2.2.2.2.2.1
    have eB : (w3.alloc (.cells #[] 89)).heap.size = w3.heap.size + 1 := by show (w3.heap.push _).size = _; simp
    have vB0 := ((s3.alloc #[] 89).drop.alloc (LetV.cells ⟨p, m⟩).toArray 89).drew
    rw [eB] at vB0
    have vB := RO.memO (St.pick 5 (OwnS.empty (sz := 13) vB0 (some ⟨w3.heap.size, 0, none⟩)))
    have c63c := (roC HH.out (St.pick 8 vB)).2.2.2.2.2.2.1
    have vC0 := St.drop ((s3.alloc (LetV.cells ⟨p, m⟩).toArray 89).alloc #[] 89).drew
    have vC := RO.memO (St.pick 5 (OwnS.empty (sz := 13) vC0 (some ⟨w3.heap.size + 1, 0, none⟩)))
    have c63d := (roC HH.out (St.pick 8 vC)).2.2.2.2.2.2.1
    have NZ := hid (show ∀ l : List Value, [] ++ l = l from List.nil_append)
    clear eB vB0 vC0 vL
    go_region_law (first
      | (have sB := s6; refine step_append_st rfl (.tmp 10) (.tmp 14) rfl Tryz.elem86 rfl rfl (St.pick 1 sB) (St.rowRd (sz := 13) (n := 1) sB rfl (by decide) (let_one _)) hb2 hm2 ?_; rintro a7 c7 w7 s7
         have d63 := (roC HH.out (St.pick 8 s7)).2.2.2.2.2.2.1
         have f63 := roF HH.out (St.pick 8 s7) 63 (by decide)
         have s8 := roSetL HH.out (St.pick 8 s7) (x.o.L ++ [⟨p, m⟩]) a7 (x.ln + 1) c7)
      | (refine step_append_st rfl (.tmp 7) (.tmp 9) rfl Tryz.elem86 rfl rfl (St.pick 4 v4) (OwnS.rd (St.pick 1 v4)) hb1 hm1 ?_; rintro a5 c5 w5 s5; rw [NZ.out, Nat.zero_add] at s5; rw [Nat.zero_add]
         have lMc := run_loadG (o := 0) aggRM2 rfl (St.pick 6 s5).rowAll
         have s6 := s5.alloc (LetV.cells ⟨p, m⟩).toArray 89)
      | (refine step_append_st rfl (.tmp 7) (.tmp 9) rfl Tryz.elem86 rfl rfl (St.pick 4 vB) (OwnS.rd (St.pick 1 vB)) hb1 hm1 ?_; rintro a5 c5 w5 s5; rw [NZ.out, Nat.zero_add] at s5; rw [Nat.zero_add]
         have s6 := s5.perm [5])
      | (refine step_append_st rfl (.tmp 7) (.tmp 9) rfl Tryz.elem86 rfl rfl (St.pick 4 vC) (OwnS.rd (St.pick 1 vC)) hb1 hm1 ?_; rintro a5 c5 w5 s5; rw [NZ.out, Nat.zero_add] at s5; rw [Nat.zero_add]
         have s6 := s5.perm [5]))
    all_goals
      go_wp2_with fail
      go_meet
      case rel =>
        have t : St W _ (row B 0 (x.withL (x.o.L ++ [⟨p, m⟩]) a7 (x.ln + 1) c7).cells :: OwnS 13 a7 (x.ln + 1) c7 (letC x.o.L ++ LetV.cells ⟨p, m⟩) :: RdH W 1 x.da x.dn x.dc (ivs x.o.D) :: OwnS 2 x.ca x.cn x.cc (chC x.o.C) :: psR W x.o.L :: row E 0 zeroRO.cells :: RdH W 1 m.pa m.pn m.pc (ivs m.ps) :: R) :=
          (St.drop (St.pick 6 (St.drop (St.pick 3 (St.drop (St.pick 2 s8)))))).perm [0]
        exact ⟨a7, c7, rfl, St.pick 5 t⟩
  case rest =>
    obtain ⟨a7, c7, rfl, s8⟩ := hcut
    go_wp2_with (first
      | (refine wpl_loadA (vs := (x.withL (x.o.L ++ [⟨p, m⟩]) a7 (x.ln + 1) c7).cells) rfl (.tmp 3) (by rfl) aggRO (by rfl) (RO.len HH.out) (St.rowAll (o := 0) (St.pick 1 s8)) ?_)
      | (refine wpl_storeA (vs := (x.withL (x.o.L ++ [⟨p, m⟩]) a7 (x.ln + 1) c7).cells) rfl (.tmp 6) (.tmp 17) (by rfl) aggRO (by rfl) (by rfl) (RO.len HH.out) (RO.one _) s8 zeroRO_len ?_; rintro w9 s9))
    have hL := run_loadA aggRO (RO.len (x := x.withL (x.o.L ++ [⟨p, m⟩]) a7 (x.ln + 1) c7) HH.out) s9.rowAll
    exact bodyPost_ret (v := .agg (x.withL (x.o.L ++ [⟨p, m⟩]) a7 (x.ln + 1) c7).cells.toArray) (by simp [results, Tryz.results118, asAddr, hL, Act.put]) rfl (HK.out (x.withL (x.o.L ++ [⟨p, m⟩]) a7 (x.ln + 1) c7) _ rfl (RO.sendM (x := x) (y := ⟨p, m⟩) (s9.dropN 2)))
end

end Go.Proofs.YtbpdchaeakihkaaGreat

/- The document's overlay: raise, lower, learn. -/
namespace Go.Proofs.YtbpdchaeakihkaaGreat
open Go.RowKit Go.Qd

/-! Messages that are built. -/
def bldM (fs : Array (Nat × Value)) : Sem Value := Instr.build 75 fs
theorem execOp_bM1 (ρ : Operand → Value) (dst : Option Tmp) (a : Operand) (ty : TypeId) (pos : String) (after : Array Edge) (guard : Option (Nat × Bool)) :
    execOp ρ { dst, op := .build 75 #[(0, a)], type := ty, pos, after, guard } = (do pure (.value (← bldM #[(0, ρ a)]))) := by simp [execOp, bldM]
theorem run_bM1 (k : Int) (w : World) : (bldM #[(0, .int .i64 k)]).run Tryz.prog w = .ok (.agg (kindM k).cells.toArray) w := by kernel_rfl
attribute [local go_sem ↓] execOp_bM1
attribute [local go_sem] run_bM1

section
variable {W w : World} {R : List HP} {post : Ending → World → Prop} {x : RO} {p : Int}

theorem RO.ok_of {x : RO} {O : OV} (e : x.o = O) (h : OOK O) : x.ok := ⟨by rw [e]; exact h.cl, by rw [e]; exact h.hl⟩
theorem kindR (k : Int) (s : St W w R) : St W w (RdH W 1 (kindM k).pa (kindM k).pn (kindM k).pc (ivs (kindM k).ps) :: R) := RdH.own (OwnS.none0 (sz := 1) s)
/-- The views and the dice are others. -/
def RO.withVD (x : RO) (V : VV) (D : List Int) (a : Option Addr) (n c : Nat) : RO := (x.withV V).withD D a n c

theorem rlearnX {V : VV} {D : List Int} {ao : Option Addr} {m c : Nat} {q : Int} (st : St W w (RdH W 1 ao m c (ivs D) :: R)) (hV : VOK V)
    (K : ∀ ao' m' c' b w', St W w' (RdH W 1 ao' m' c' (ivs (learnD V D q)) :: R) → post (.returned (.tuple #[.agg (refCells (learnV V D q)).toArray, .slice ao' m' c', .bool b])) w') :
    Calls Tryz.prog 161 #[.agg (refCells V).toArray, .slice ao m c, .int .i64 q] w post := by
  cases hb : learnOk V q with
  | true => exact rlearn_yes st hV hb (fun a n c w s => K a n c true w s)
  | false =>
    have eV : learnV V D q = V := by unfold learnV; rw [if_neg (by rw [hb]; exact Bool.noConfusion)]
    have eD : learnD V D q = D := by unfold learnD; rw [if_neg (by rw [hb]; exact Bool.noConfusion)]
    rw [eV, eD] at K
    exact rlearn_no st hb (fun w s => K _ _ _ false w s)

set_option maxRecDepth 100000 in
set_option maxHeartbeats 4000000 in
theorem rlearnO_c (h : OOK x.o) (st : St W w (x.mem W :: R)) (K : ∀ (x' : RO) w', x'.o = learnO x.o p → St W w' (x'.mem W :: R) → post (.returned (.agg x'.cells.toArray)) w') : Calls Tryz.prog 121 #[.agg x.cells.toArray, .int .i64 p] w post := by
  have HH := hid h.ro
  have HV := hid h.v
  have HK := hid K; clear K
  clear h
  obtain ⟨V, hV⟩ : ∃ V, learnV x.o.V x.o.D p = V := ⟨_, rfl⟩
  obtain ⟨D, hD⟩ : ∃ D, learnD x.o.V x.o.D p = D := ⟨_, rfl⟩
  have HVE := hid hV; have HDE := hid hD
  clear hV hD
  go_enter Tryz.func121, Tryz.ntmps121
  go_wp2_with (first
    | (refine wpl_boxA (vs := x.cells) rfl (.tmp 0) rfl rfl st ?_; rintro B w1 s1)
    | (refine wpl_allocA rfl rfl zeroRO_z s1 ?_; rintro E w2 s2
       have c47 := (roC HH.out (St.pick 1 s2)).2.2.1
       have s3 := RO.memO (St.pick 2 s2))
    | (refine wpl_loadA (vs := refCells x.o.V) rfl (.tmp 6) (by rfl) aggRV (by rfl) (refCells_len _) (St.rowAll (St.pick 1 ((RO.parts HH.out).1 (St.pick 1 s2)))) ?_)
    | (go_at_call 161; refine rlearnX s3 HV.out ?_; rw [HVE.out, HDE.out]; rintro a n c b w4 s4
       have p4 := roPutV HH.out (St.pick 5 s4))
    | (refine wpl_storeA (vs := refCells V) rfl (.tmp 15) (.tmp 12) (by rfl) aggRV (by rfl) (by rfl) (refCells_len _) (refCells_one _) p4 (refCells_len _) ?_; rintro w5 s5
       have s6 := roGotV HH.out s5
       have d47 := (roC (x := x.withV V) HH.out s6).2.2.1
       have f47 := roF (x := x.withV V) HH.out s6 47 (by decide)
       have s7 := roSetD (x := x.withV V) HH.out s6 D a n c)
    | (refine wpl_loadA (vs := (x.withVD V D a n c).cells) rfl (.tmp 2) (by rfl) aggRO (by rfl) (RO.len HH.out) (St.rowAll (o := 0) s7) ?_)
    | (refine wpl_storeA (vs := (x.withVD V D a n c).cells) rfl (.tmp 4) (.tmp 17) (by rfl) aggRO (by rfl) (by rfl) (RO.len HH.out) (RO.one _) (St.pick 5 s7) zeroRO_len ?_; rintro w9 s9))
  have hL := run_loadA aggRO (RO.len (x := x.withVD V D a n c) HH.out) s9.rowAll
  exact bodyPost_ret (v := .agg (x.withVD V D a n c).cells.toArray) (by simp [results, Tryz.results121, asAddr, hL, Act.put]) rfl (HK.out (x.withVD V D a n c) _ (by unfold learnO; rw [HVE.out, HDE.out]; rfl) (RO.memC (x := x.withVD V D a n c) (s9.dropN 2)))

set_option maxRecDepth 100000 in
set_option maxHeartbeats 4000000 in
theorem rlowerO_c (h : OOK x.o) (hn : x.o.C.length ≤ 1000) (st : St W w (x.mem W :: R)) (K : ∀ (x' : RO) w', x'.o = lowerO x.o p → St W w' (x'.mem W :: R) → post (.returned (.agg x'.cells.toArray)) w') : Calls Tryz.prog 120 #[.agg x.cells.toArray, .int .i64 p] w post := by
  have HH := hid h.ro
  have HV := hid h.v
  have HO := hid h
  have HN := hid hn
  obtain ⟨b, hb⟩ : ∃ b, memB x.o.V.a p = b := ⟨_, rfl⟩
  have HB := hid hb
  clear h hb hn
  unfold lowerO at K
  rw [HB.out] at K
  cases b with
  | false =>
    rw [if_neg Bool.noConfusion] at K
    have HK := hid K; clear K
    go_enter Tryz.func120, Tryz.ntmps120
    go_wp2_with (first
      | (refine wpl_boxA (vs := x.cells) rfl (.tmp 0) rfl rfl st ?_; rintro B w1 s1)
      | (refine wpl_allocA rfl rfl zeroRO_z s1 ?_; rintro E w2 s2
         have c47 := (roC HH.out (St.pick 1 s2)).2.2.1
         have s3 := RO.memO (St.pick 2 s2))
      | (refine wpl_loadA (vs := refCells x.o.V) rfl (.tmp 9) (by rfl) aggRV (by rfl) (refCells_len _) (St.rowAll (St.pick 1 ((RO.parts HH.out).1 (St.pick 1 s2)))) ?_)
      | (go_at_call 160; refine rlower_no s3 HB.out ?_; rintro w4 s4)
      | (refine wpl_allocA rfl rfl zeroRV s4 ?_; rintro U w5 s5)
      | (refine wpl_storeA (vs := refCells x.o.V) rfl (.tmp 5) (.tmp 15) (by rfl) aggRV (by rfl) (by rfl) (refCells_len _) (refCells_one _) s5 rfl ?_; rintro w6 s6)
      | (refine wpl_loadA (vs := x.cells) rfl (.tmp 2) (by rfl) aggRO (by rfl) (RO.len HH.out) (St.rowAll (o := 0) (St.pick 6 s6)) ?_)
      | (refine wpl_storeA (vs := x.cells) rfl (.tmp 4) (.tmp 20) (by rfl) aggRO (by rfl) (by rfl) (RO.len HH.out) (RO.one _) (St.pick 5 s6) zeroRO_len ?_; rintro w9 s9))
    have hL := run_loadA aggRO (RO.len HH.out) s9.rowAll
    exact bodyPost_ret (v := .agg x.cells.toArray) (by simp [results, Tryz.results120, asAddr, hL, Act.put]) rfl (HK.out x _ rfl (RO.memC (St.drop (St.pick 4 (s9.dropN 2)))))
  | true =>
    rw [if_pos rfl] at K
    have HK := hid K; clear K
    obtain ⟨V, hV⟩ : ∃ V, lowerV x.o.V x.o.D p = V := ⟨_, rfl⟩
    obtain ⟨D, hD⟩ : ∃ D, lowerD x.o.V x.o.D p = D := ⟨_, rfl⟩
    have HVE := hid hV; have HDE := hid hD
    clear hV hD
    go_enter Tryz.func120, Tryz.ntmps120
    go_wp2_with (first
      | (refine wpl_boxA (vs := x.cells) rfl (.tmp 0) rfl rfl st ?_; rintro B w1 s1)
      | (refine wpl_allocA rfl rfl zeroRO_z s1 ?_; rintro E w2 s2
         have c47 := (roC HH.out (St.pick 1 s2)).2.2.1
         have s3 := RO.memO (St.pick 2 s2))
      | (refine wpl_loadA (vs := refCells x.o.V) rfl (.tmp 9) (by rfl) aggRV (by rfl) (refCells_len _) (St.rowAll (St.pick 1 ((RO.parts HH.out).1 (St.pick 1 s2)))) ?_)
      | (go_at_call 160; refine rlower_yes s3 HV.out HB.out ?_; rw [HVE.out, HDE.out]; rintro a n c w4 s4)
      | (refine wpl_allocA rfl rfl zeroRV s4 ?_; rintro U w5 s5)
      | (refine wpl_storeA (vs := refCells V) rfl (.tmp 5) (.tmp 15) (by rfl) aggRV (by rfl) (by rfl) (refCells_len _) (refCells_one _) s5 rfl ?_; rintro w6 s6)
      | (refine wpl_loadA (vs := refCells V) rfl (.tmp 5) (by rfl) aggRV (by rfl) (refCells_len _) (St.rowAll (o := 0) s6) ?_
         have p6 := roPutV HH.out (St.pick 6 s6))
      | (refine wpl_storeA (vs := refCells V) rfl (.tmp 22) (.tmp 21) (by rfl) aggRV (by rfl) (by rfl) (refCells_len _) (refCells_one _) p6 (refCells_len _) ?_; rintro w7 s7
         have s8 := roGotV HH.out s7
         have d47 := (roC (x := x.withV V) HH.out s8).2.2.1
         have f47 := roF (x := x.withV V) HH.out s8 47 (by decide)
         have sA := roSetD (x := x.withV V) HH.out s8 D a n c
         have sB : St W _ ((x.withVD V D a n c).mem W :: row B 0 (x.withVD V D a n c).cells :: row U 0 (refCells V) :: row E 0 zeroRO.cells :: R) := RO.memC (x := x.withVD V D a n c) (sA.perm [2, 2, 2, 2]))
      | (refine wpl_loadA (vs := (x.withVD V D a n c).cells) rfl (.tmp 2) (by rfl) aggRO (by rfl) (RO.len HH.out) (St.rowAll (o := 0) sA) ?_)
      | (go_at_call 159; refine rturn_c (x := x.withVD V D a n c) HH.out HN.out sB ?_; rintro y wC hy sC
         have HY := hid hy
         have HYO : Hid y.ok := hid (by rw [RO.ok, hy]; exact HH.out)
         clear hy)
      | (refine wpl_storeA (vs := y.cells) rfl (.tmp 4) (.tmp 27) (by rfl) aggRO (by rfl) (by rfl) (RO.len HYO.out) (RO.one _) (St.pick 3 sC) zeroRO_len ?_; rintro w9 s9))
    have hL := run_loadA aggRO (RO.len HYO.out) s9.rowAll
    exact bodyPost_ret (v := .agg y.cells.toArray) (by simp [results, Tryz.results120, asAddr, hL, Act.put]) rfl (HK.out y _ (by rw [HY.out, HVE.out, HDE.out]; rfl) (St.drop (St.pick 1 (St.drop (St.pick 1 s9.drop)))))

set_option maxRecDepth 100000 in
set_option maxHeartbeats 8000000 in
theorem rraiseO_c (h : OOK x.o) (hL : x.o.L.length ≤ 900) (hn : x.o.C.length ≤ 900) (st : St W w (x.mem W :: R)) (K : ∀ (x' : RO) w', x'.o = raiseO x.o p → St W w' (x'.mem W :: R) → post (.returned (.agg x'.cells.toArray)) w') : Calls Tryz.prog 119 #[.agg x.cells.toArray, .int .i64 p] w post := by
  have HH := hid h.ro
  have HV := hid h.v
  have HN : Hid (x.o.L.length ≤ 900 ∧ x.o.C.length ≤ 900) := hid ⟨hL, hn⟩
  obtain ⟨b, hb⟩ : ∃ b, raiseOk x.o.V p = b := ⟨_, rfl⟩
  have HB := hid hb
  clear h hn hL
  unfold raiseO at K
  rw [HB.out] at K
  cases b with
  | false =>
    clear hb
    rw [if_neg Bool.noConfusion] at K
    have HK := hid K; clear K
    go_enter Tryz.func119, Tryz.ntmps119
    go_wp2_with (first
      | (refine wpl_boxA (vs := x.cells) rfl (.tmp 0) rfl rfl st ?_; rintro B w1 s1)
      | (refine wpl_allocA rfl rfl zeroRO_z s1 ?_; rintro E w2 s2
         have c47 := (roC HH.out (St.pick 1 s2)).2.2.1
         have s3 := RO.memO (St.pick 2 s2))
      | (refine wpl_loadA (vs := refCells x.o.V) rfl (.tmp 10) (by rfl) aggRV (by rfl) (refCells_len _) (St.rowAll (St.pick 1 ((RO.parts HH.out).1 (St.pick 1 s2)))) ?_)
      | (go_at_call 158; refine rraise_no s3 HB.out ?_; rintro w4 s4)
      | (refine wpl_allocA rfl rfl zeroRV s4 ?_; rintro U w5 s5)
      | (refine wpl_storeA (vs := refCells x.o.V) rfl (.tmp 5) (.tmp 16) (by rfl) aggRV (by rfl) (by rfl) (refCells_len _) (refCells_one _) s5 rfl ?_; rintro w6 s6)
      | (refine wpl_loadA (vs := x.cells) rfl (.tmp 2) (by rfl) aggRO (by rfl) (RO.len HH.out) (St.rowAll (o := 0) (St.pick 6 s6)) ?_)
      | (refine wpl_storeA (vs := x.cells) rfl (.tmp 4) (.tmp 22) (by rfl) aggRO (by rfl) (by rfl) (RO.len HH.out) (RO.one _) (St.pick 5 s6) zeroRO_len ?_; rintro w9 s9))
    have hL := run_loadA aggRO (RO.len HH.out) s9.rowAll
    exact bodyPost_ret (v := .agg x.cells.toArray) (by simp [results, Tryz.results119, asAddr, hL, Act.put]) rfl (HK.out x _ rfl (RO.memC (St.drop (St.pick 4 (s9.dropN 2)))))
  | true =>
    obtain ⟨hnode, _, _⟩ := raiseOk_iff.1 hb
    obtain ⟨q0, q1⟩ := nodeB_iff.1 hnode
    obtain ⟨k, rfl⟩ := Int.eq_ofNat_of_zero_le q0
    have hk : k < 12 := by omega
    have hkz : (0 : Int) ≤ (k : Int) := q0
    clear hb hnode q0 q1
    rw [if_pos rfl] at K
    obtain ⟨V, hV⟩ : ∃ V, raiseV x.o.V x.o.D (k : Int) = V := ⟨_, rfl⟩
    obtain ⟨D, hD⟩ : ∃ D, raiseD x.o.V x.o.D (k : Int) = D := ⟨_, rfl⟩
    obtain ⟨G, hG⟩ : ∃ G, raiseG x.o.V x.o.D = G := ⟨_, rfl⟩
    rw [hV, hD, hG, Int.toNat_natCast] at K
    have HVE := hid hV; have HDE := hid hD; have HGE := hid hG
    clear hV hD hG
    have HO3 : Hid (∀ (V : VV) (D : List Int) (a : Option Addr) (n c : Nat), ((x.withVD V D a n c).withH (x.o.heard.set k 0)).ok) := hid (fun _ _ _ _ _ => ⟨HH.out.1, by show (x.o.heard.set k 0).length = 12; rw [List.length_set]; exact HH.out.2⟩)
    by_cases hg : 0 ≤ G
    · rw [if_pos hg, if_pos hg] at K
      have HK := hid K; clear K
      have hgd : decide ((0 : Int) ≤ G) = true := decide_eq_true hg
      clear hg HO3
      go_enter Tryz.func119, Tryz.ntmps119
      go_wp2_with (first
        | (refine wpl_boxA (vs := x.cells) rfl (.tmp 0) rfl rfl st ?_; rintro B w1 s1)
        | (refine wpl_allocA rfl rfl zeroRO_z s1 ?_; rintro E w2 s2
           have c47 := (roC HH.out (St.pick 1 s2)).2.2.1
           have s3 := RO.memO (St.pick 2 s2))
        | (refine wpl_loadA (vs := refCells x.o.V) rfl (.tmp 10) (by rfl) aggRV (by rfl) (refCells_len _) (St.rowAll (St.pick 1 ((RO.parts HH.out).1 (St.pick 1 s2)))) ?_)
        | (go_at_call 158; refine rraise_yes s3 HV.out HB.out ?_; rw [HVE.out, HDE.out, HGE.out]; rintro a n c w4 s4)
        | (refine wpl_allocA rfl rfl zeroRV s4 ?_; rintro U w5 s5)
        | (refine wpl_storeA (vs := refCells V) rfl (.tmp 5) (.tmp 16) (by rfl) aggRV (by rfl) (by rfl) (refCells_len _) (refCells_one _) s5 rfl ?_; rintro w6 s6)
        | (refine wpl_loadA (vs := refCells V) rfl (.tmp 5) (by rfl) aggRV (by rfl) (refCells_len _) (St.rowAll (o := 0) s6) ?_
           have p6 := roPutV HH.out (St.pick 6 s6))
        | (refine wpl_storeA (vs := refCells V) rfl (.tmp 24) (.tmp 23) (by rfl) aggRV (by rfl) (by rfl) (refCells_len _) (refCells_one _) p6 (refCells_len _) ?_; rintro w7 s7
           have s8 := roGotV HH.out s7
           have d47 := (roC (x := x.withV V) HH.out s8).2.2.1
           have f47 := roF (x := x.withV V) HH.out s8 47 (by decide)
           have sA := roSetD (x := x.withV V) HH.out s8 D a n c
           have sB : St W _ ((x.withVD V D a n c).mem W :: row B 0 (x.withVD V D a n c).cells :: row U 0 (refCells V) :: row E 0 zeroRO.cells :: R) := RO.memC (x := x.withVD V D a n c) (sA.perm [2, 2, 2, 2])
           have sB2 := St.pick 1 sB
           clear sB)
        | (refine wpl_loadA (vs := (x.withVD V D a n c).cells) rfl (.tmp 2) (by rfl) aggRO (by rfl) (RO.len HH.out) (St.rowAll (o := 0) sB2) ?_)
        | (go_at_call 118; refine rsend_c (x := x.withVD V D a n c) (m := kindM 6) HH.out (Nat.le_trans HN.out.1 (by decide)) (St.pick 1 (kindR 6 (St.pick 1 sB2))) ?_; rintro y1 wC hy1 sC; clear sB2
           have HY1 := hid hy1
           have HO1 : Hid y1.ok := hid (by rw [RO.ok, hy1]; exact HH.out)
           have HC1 : Hid (y1.o.C.length ≤ 1000) := hid (by rw [hy1]; exact Nat.le_trans HN.out.2 (by decide))
           clear hy1)
        | (refine wpl_storeA (vs := y1.cells) rfl (.tmp 2) (.tmp 32) (by rfl) aggRO (by rfl) (by rfl) (RO.len HO1.out) (RO.one _) (St.pick 1 sC) (RO.len (x := x.withVD V D a n c) HH.out) ?_; rintro wD sD)
        | (refine wpl_loadA (vs := y1.cells) rfl (.tmp 2) (by rfl) aggRO (by rfl) (RO.len HO1.out) (St.rowAll (o := 0) sD) ?_)
        | (go_at_call 159; first
            | (refine rturn_c (x := y2.withH (y2.o.heard.set k 0)) HO3.out HC2.out sG ?_; rintro y4 wH hy4 sH
               have HY4 := hid hy4
               have HO4 : Hid y4.ok := hid (by rw [RO.ok, hy4]; exact HO3.out)
               clear hy4)
            | (refine rturn_c (x := y1) HO1.out HC1.out (St.pick 1 sD) ?_; rintro y2 wE hy2 sE
               have HY2 := hid hy2
               have HO2 : Hid y2.ok := hid (by rw [RO.ok, hy2]; exact HO1.out)
               have HC2 : Hid (y2.o.C.length ≤ 1000) := hid (by rw [hy2, HY1.out]; have := HN.out.2; show (x.o.C ++ [_]).length ≤ 1000; rw [List.length_append]; show _ + 1 ≤ 1000; omega)
               have HO3 : Hid (y2.withH (y2.o.heard.set k 0)).ok := hid ⟨HO2.out.1, by show (y2.o.heard.set k 0).length = 12; rw [List.length_set]; exact HO2.out.2⟩
               clear hy2))
        | (refine wpl_storeA (vs := y2.cells) rfl (.tmp 2) (.tmp 35) (by rfl) aggRO (by rfl) (by rfl) (RO.len HO2.out) (RO.one _) (St.pick 1 sE) (RO.len HO1.out) ?_; rintro wF sF
           have h0 := roHeard HO2.out sF hk
           have f0 := roF HO2.out sF (49 + k) (by omega)
           have sG0 := roSetH HO2.out sF hk 0
           have sG : St W _ ((y2.withH (y2.o.heard.set k 0)).mem W :: row B 0 (y2.withH (y2.o.heard.set k 0)).cells :: row U 0 (refCells V) :: row E 0 zeroRO.cells :: R) := St.pick 1 sG0)
        | (refine wpl_loadA (vs := (y2.withH (y2.o.heard.set k 0)).cells) rfl (.tmp 2) (by rfl) aggRO (by rfl) (RO.len HO3.out) (St.rowAll (o := 0) sG0) ?_)
        | (refine wpl_storeA (vs := y4.cells) rfl (.tmp 4) (.tmp 41) (by rfl) aggRO (by rfl) (by rfl) (RO.len HO4.out) (RO.one _) (St.pick 3 sH) zeroRO_len ?_; rintro w9 s9))
      have hL := run_loadA aggRO (RO.len HO4.out) s9.rowAll
      exact bodyPost_ret (v := .agg y4.cells.toArray) (by simp [results, Tryz.results119, asAddr, hL, Act.put]) rfl (HK.out y4 _ (by rw [HY4.out]; show turnO { y2.o with heard := y2.o.heard.set k 0 } (k : Int) true = _; rw [HY2.out, HY1.out]; rfl) (St.drop (St.pick 1 (St.drop (St.pick 1 s9.drop)))))
    · rw [if_neg hg, if_neg hg] at K
      have HK := hid K; clear K
      have hgd : decide ((0 : Int) ≤ G) = false := decide_eq_false hg
      clear hg
      go_enter Tryz.func119, Tryz.ntmps119
      go_wp2_with (first
        | (refine wpl_boxA (vs := x.cells) rfl (.tmp 0) rfl rfl st ?_; rintro B w1 s1)
        | (refine wpl_allocA rfl rfl zeroRO_z s1 ?_; rintro E w2 s2
           have c47 := (roC HH.out (St.pick 1 s2)).2.2.1
           have s3 := RO.memO (St.pick 2 s2))
        | (refine wpl_loadA (vs := refCells x.o.V) rfl (.tmp 10) (by rfl) aggRV (by rfl) (refCells_len _) (St.rowAll (St.pick 1 ((RO.parts HH.out).1 (St.pick 1 s2)))) ?_)
        | (go_at_call 158; refine rraise_yes s3 HV.out HB.out ?_; rw [HVE.out, HDE.out, HGE.out]; rintro a n c w4 s4)
        | (refine wpl_allocA rfl rfl zeroRV s4 ?_; rintro U w5 s5)
        | (refine wpl_storeA (vs := refCells V) rfl (.tmp 5) (.tmp 16) (by rfl) aggRV (by rfl) (by rfl) (refCells_len _) (refCells_one _) s5 rfl ?_; rintro w6 s6)
        | (refine wpl_loadA (vs := refCells V) rfl (.tmp 5) (by rfl) aggRV (by rfl) (refCells_len _) (St.rowAll (o := 0) s6) ?_
           have p6 := roPutV HH.out (St.pick 6 s6))
        | (refine wpl_storeA (vs := refCells V) rfl (.tmp 24) (.tmp 23) (by rfl) aggRV (by rfl) (by rfl) (refCells_len _) (refCells_one _) p6 (refCells_len _) ?_; rintro w7 s7
           have s8 := roGotV HH.out s7
           have d47 := (roC (x := x.withV V) HH.out s8).2.2.1
           have f47 := roF (x := x.withV V) HH.out s8 47 (by decide)
           have sA := roSetD (x := x.withV V) HH.out s8 D a n c
           have sB : St W _ ((x.withVD V D a n c).mem W :: row B 0 (x.withVD V D a n c).cells :: row U 0 (refCells V) :: row E 0 zeroRO.cells :: R) := RO.memC (x := x.withVD V D a n c) (sA.perm [2, 2, 2, 2])
           have h0 := roHeard (x := x.withVD V D a n c) HH.out (St.pick 1 sB) hk
           have f0 := roF (x := x.withVD V D a n c) HH.out (St.pick 1 sB) (49 + k) (by omega)
           have sG0 := roSetH (x := x.withVD V D a n c) HH.out (St.pick 1 sB) hk 0
           have sG : St W _ (((x.withVD V D a n c).withH (x.o.heard.set k 0)).mem W :: row B 0 ((x.withVD V D a n c).withH (x.o.heard.set k 0)).cells :: row U 0 (refCells V) :: row E 0 zeroRO.cells :: R) := St.pick 1 sG0)
        | (refine wpl_loadA (vs := ((x.withVD V D a n c).withH (x.o.heard.set k 0)).cells) rfl (.tmp 2) (by rfl) aggRO (by rfl) (RO.len (HO3.out V D a n c)) (St.rowAll (o := 0) sG0) ?_)
        | (go_at_call 159; refine rturn_c (x := (x.withVD V D a n c).withH (x.o.heard.set k 0)) (HO3.out V D a n c) (Nat.le_trans HN.out.2 (by decide)) sG ?_; rintro y4 wH hy4 sH
           have HY4 := hid hy4
           have HO4 : Hid y4.ok := hid (by rw [RO.ok, hy4]; exact (HO3.out V D a n c))
           clear hy4)
        | (refine wpl_storeA (vs := y4.cells) rfl (.tmp 4) (.tmp 41) (by rfl) aggRO (by rfl) (by rfl) (RO.len HO4.out) (RO.one _) (St.pick 3 sH) zeroRO_len ?_; rintro w9 s9))
      have hL := run_loadA aggRO (RO.len HO4.out) s9.rowAll
      exact bodyPost_ret (v := .agg y4.cells.toArray) (by simp [results, Tryz.results119, asAddr, hL, Act.put]) rfl (HK.out y4 _ (by rw [HY4.out]; rfl) (St.drop (St.pick 1 (St.drop (St.pick 1 s9.drop)))))
end

end Go.Proofs.YtbpdchaeakihkaaGreat

/- The document's overlay: Join, Hear, others, Leave. -/
namespace Go.Proofs.YtbpdchaeakihkaaGreat
open Go.RowKit Go.Qd
attribute [local go_sem ↓] execOp_bM1
attribute [local go_sem] run_bM1

/-- A store of a whole overlay, in a drawn region. -/
theorem execOp_stRO (ρ : Operand → Value) (dst : Option Tmp) (a x : Operand) (ty : TypeId) (pos : String) (after : Array Edge) (guard : Option (Nat × Bool)) :
    execOp ρ { dst, op := .store 96 a x, type := ty, pos, after, guard } = (do storeG 96 (ρ a) (ρ x); pure .skip) := rfl

section
variable {W w : World} {R : List HP} {post : Ending → World → Prop} {x : RO} {p : Int} {B : Nat}

theorem RO.oneG (h : x.ok) : oneG x.cells 65 := ⟨RO.len h, RO.one x⟩
theorem roAct' (h : x.ok) (s : St W w (row B 0 x.cells :: R)) {k : Nat} (hk : k < 12) : w.cell? ⟨B, 21 + k, none⟩ = some (.bool (memB x.o.V.a (k : Int))) := roAct h s hk
theorem roBitsA (h : x.ok) (s : St W w (row B 0 x.cells :: R)) : ∀ j u, (bits x.o.V.a)[j]? = some u → w.cell? ⟨B, 21 + j, none⟩ = some u := fun j u hu => by
  have hj : j < 12 := by
    rcases Nat.lt_or_ge j 12 with g | g
    · exact g
    · rw [List.getElem?_eq_none (by rw [bits_len]; exact g)] at hu; cases hu
  rw [bits_get hj] at hu
  cases hu
  exact roAct h s hj
theorem roBitsP (h : x.ok) (s : St W w (row B 0 x.cells :: R)) : ∀ j u, (bits x.o.V.p)[j]? = some u → w.cell? ⟨B, 33 + j, none⟩ = some u := fun j u hu => by
  have hj : j < 12 := by
    rcases Nat.lt_or_ge j 12 with g | g
    · exact g
    · rw [List.getElem?_eq_none (by rw [bits_len]; exact g)] at hu; cases hu
  rw [bits_get hj] at hu
  cases hu
  have := (St.pick 1 ((RO.parts h).1 s)).rowCell (refCells_p (V := x.o.V) hj)
  rwa [← Nat.add_assoc] at this
theorem OOK.freshRO {y : RO} (h : OOK x.o) (e : y.o = freshO x.o) : OOK y.o := by rw [e]; exact OOK.fresh h

set_option maxRecDepth 100000 in
set_option maxHeartbeats 4000000 in
theorem rjoinO_c (h : OOK x.o) (st : St W w (x.mem W :: R)) (K : ∀ (x' : RO) k w', (x'.o = freshO x.o ∧ k = 1 ∧ onodeB x.o p = false ∨ x'.o = sendO (raiseO (freshO x.o) p) ⟨p, kindM 1⟩ ∧ k = 0 ∧ onodeB x.o p = true) → St W w' (x'.mem W :: R) → post (.returned (.tuple #[.agg x'.cells.toArray, .int .i64 k])) w') :
    Calls Tryz.prog 71 #[.agg x.cells.toArray, .int .i64 p] w post := by
  have HH := hid h.ro
  have HO := hid h
  have HK := hid K; clear K
  obtain ⟨b, hb⟩ : ∃ b, onodeB x.o p = b := ⟨_, rfl⟩
  have HB := hid hb
  clear h hb
  cases b with
  | false =>
    go_enter Tryz.func71, Tryz.ntmps71
    go_wp2_with (first
      | (refine wpl_boxA (vs := x.cells) rfl (.tmp 0) rfl rfl st ?_; rintro B w1 s1)
      | (refine wpl_allocA rfl rfl zeroRO_z s1 ?_; rintro E w2 s2)
      | (refine wpl_loadA (vs := x.cells) rfl (.tmp 2) (by rfl) aggRO (by rfl) (RO.len HH.out) (St.rowAll (o := 0) (St.pick 1 s2)) ?_)
      | (go_at_call 116; refine rfresh_c HH.out (St.pick 2 s2) ?_; rintro y w3 hy s3
         have HY := hid hy
         have HYO := hid (HO.out.freshRO hy)
         clear hy s2)
      | (refine wpl_storeA (vs := y.cells) rfl (.tmp 2) (.tmp 7) (by rfl) aggRO (by rfl) (by rfl) (RO.len HYO.out.ro) (RO.one _) (St.pick 2 s3) (RO.len HH.out) ?_; rintro w4 s4)
      | (refine wpl_loadA (vs := y.cells) rfl (.tmp 2) (by rfl) aggRO (by rfl) (RO.len HYO.out.ro) (St.rowAll (o := 0) s4) ?_)
      | (go_at_call 117; refine rnodeO_c HYO.out.ro s4 ?_; rw [HY.out, show onodeB (freshO x.o) p = false from HB.out]; clear s4; rintro w4 s4)
      | (refine wpl_storeA (vs := y.cells) rfl (.tmp 4) (.tmp 12) (by rfl) aggRO (by rfl) (by rfl) (RO.len HYO.out.ro) (RO.one _) (St.pick 2 s4) zeroRO_len ?_; rintro w9 s9))
    have hL := run_loadA aggRO (RO.len HYO.out.ro) s9.rowAll
    exact bodyPost_ret (v := .tuple #[.agg y.cells.toArray, .int .i64 1]) (by simp [results, Tryz.results71, asAddr, hL]) rfl (HK.out y 1 _ (.inl ⟨HY.out, rfl, HB.out⟩) (s9.dropN 2))
  | true =>
    go_enter Tryz.func71, Tryz.ntmps71
    go_wp2_with (first
      | (refine wpl_boxA (vs := x.cells) rfl (.tmp 0) rfl rfl st ?_; rintro B w1 s1)
      | (refine wpl_allocA rfl rfl zeroRO_z s1 ?_; rintro E w2 s2)
      | (refine wpl_loadA (vs := x.cells) rfl (.tmp 2) (by rfl) aggRO (by rfl) (RO.len HH.out) (St.rowAll (o := 0) (St.pick 1 s2)) ?_)
      | (go_at_call 116; refine rfresh_c HH.out (St.pick 2 s2) ?_; rintro y w3 hy s3
         have HY := hid hy
         have HYO := hid (HO.out.freshRO hy)
         have HYL : Hid (y.o.L.length ≤ 900 ∧ y.o.C.length ≤ 900) := hid (by rw [hy]; exact ⟨Nat.zero_le _, Nat.zero_le _⟩)
         clear hy s2)
      | (refine wpl_storeA (vs := y.cells) rfl (.tmp 2) (.tmp 7) (by rfl) aggRO (by rfl) (by rfl) (RO.len HYO.out.ro) (RO.one _) (St.pick 2 s3) (RO.len HH.out) ?_; rintro w4 s4)
      | (refine wpl_loadA (vs := y.cells) rfl (.tmp 2) (by rfl) aggRO (by rfl) (RO.len HYO.out.ro) (St.rowAll (o := 0) s4) ?_)
      | (go_at_call 117; refine rnodeO_c HYO.out.ro s4 ?_; rw [HY.out, show onodeB (freshO x.o) p = true from HB.out]; clear s4; rintro w4 s4)
      | (go_at_call 119; refine rraiseO_c HYO.out HYL.out.1 HYL.out.2 (St.pick 1 s4) ?_; rintro z w5 hz s5
         have HZ := hid hz
         have HZO : Hid (OOK z.o) := hid (by rw [hz]; exact HYO.out.raise p)
         have HZL : Hid (z.o.L.length ≤ 1000) := hid (by rw [hz]; have := raiseO_len y.o p; have := HYL.out.1; omega)
         clear hz)
      | (go_at_call 118; refine rsend_c (x := z) (m := kindM 1) HZO.out.ro HZL.out (St.pick 1 (kindR 1 s5)) ?_; rintro v w6 hv s6
         have HVV := hid hv
         have HVO : Hid v.ok := hid (by rw [RO.ok, hv]; exact HZO.out.ro)
         clear hv)
      | (refine wpl_storeA (vs := v.cells) rfl (.tmp 4) (.tmp 18) (by rfl) aggRO (by rfl) (by rfl) (RO.len HVO.out) (RO.one _) (St.pick 2 s6) zeroRO_len ?_; rintro w9 s9))
    have hL := run_loadA aggRO (RO.len HVO.out) s9.rowAll
    exact bodyPost_ret (v := .tuple #[.agg v.cells.toArray, .int .i64 0]) (by simp [results, Tryz.results71, asAddr, hL]) rfl (HK.out v 0 _ (.inr ⟨by rw [HVV.out, HZ.out, HY.out], rfl, HB.out⟩) (St.drop (St.pick 1 s9.drop)))

set_option maxRecDepth 100000 in
set_option maxHeartbeats 4000000 in
theorem rhearO_no (h : OOK x.o) (hb : onodeB x.o p = false) (st : St W w (x.mem W :: R)) (K : ∀ (x' : RO) w', x'.o = freshO x.o → St W w' (x'.mem W :: R) → post (.returned (.tuple #[.agg x'.cells.toArray, .int .i64 1])) w') :
    Calls Tryz.prog 73 #[.agg x.cells.toArray, .int .i64 p] w post := by
  have HH := hid h.ro
  have HO := hid h
  have HK := hid K; clear K
  have HB := hid hb
  clear h hb
  go_enter Tryz.func73, Tryz.ntmps73
  go_wp2_with (first
    | (refine wpl_boxA (vs := x.cells) rfl (.tmp 0) rfl rfl st ?_; rintro B w1 s1)
    | (refine wpl_allocA rfl rfl zeroRO_z s1 ?_; rintro E w2 s2)
    | (refine wpl_loadA (vs := x.cells) rfl (.tmp 2) (by rfl) aggRO (by rfl) (RO.len HH.out) (St.rowAll (o := 0) (St.pick 1 s2)) ?_)
    | (go_at_call 116; refine rfresh_c HH.out (St.pick 2 s2) ?_; rintro y w3 hy s3
       have HY := hid hy
       have HYO := hid (HO.out.freshRO hy)
       clear hy s2)
    | (refine wpl_storeA (vs := y.cells) rfl (.tmp 2) (.tmp 7) (by rfl) aggRO (by rfl) (by rfl) (RO.len HYO.out.ro) (RO.one _) (St.pick 2 s3) (RO.len HH.out) ?_; rintro w4 s4)
    | (refine wpl_loadA (vs := y.cells) rfl (.tmp 2) (by rfl) aggRO (by rfl) (RO.len HYO.out.ro) (St.rowAll (o := 0) s4) ?_)
    | (go_at_call 117; refine rnodeO_c HYO.out.ro s4 ?_; rw [HY.out, show onodeB (freshO x.o) p = false from HB.out]; clear s4; rintro w4 s4)
    | (refine wpl_storeA (vs := y.cells) rfl (.tmp 4) (.tmp 12) (by rfl) aggRO (by rfl) (by rfl) (RO.len HYO.out.ro) (RO.one _) (St.pick 2 s4) zeroRO_len ?_; rintro w9 s9))
  have hL := run_loadA aggRO (RO.len HYO.out.ro) s9.rowAll
  exact bodyPost_ret (v := .tuple #[.agg y.cells.toArray, .int .i64 1]) (by simp [results, Tryz.results73, asAddr, hL]) rfl (HK.out y _ HY.out (s9.dropN 2))

set_option maxRecDepth 100000 in
set_option maxHeartbeats 4000000 in
theorem rhearO_yes (h : OOK x.o) (hb : onodeB x.o p = true) (st : St W w (x.mem W :: R)) (K : ∀ (x' : RO) w', x'.o = heardO (freshO x.o) p → St W w' (x'.mem W :: R) → post (.returned (.tuple #[.agg x'.cells.toArray, .int .i64 0])) w') :
    Calls Tryz.prog 73 #[.agg x.cells.toArray, .int .i64 p] w post := by
  have HH := hid h.ro
  have HO := hid h
  have hp := there_lt h (onode_there hb)
  obtain ⟨k, rfl⟩ := Int.eq_ofNat_of_zero_le hp.1
  have hk : k < 12 := by omega
  have hkz : (0 : Int) ≤ (k : Int) := hp.1
  have HB := hid hb
  clear h hb hp
  obtain ⟨u, hu⟩ : ∃ u, memB x.o.V.a (k : Int) = u := ⟨_, rfl⟩
  have HU := hid hu
  clear hu
  have HK := hid K; clear K
  cases u with
  | true =>
    go_enter Tryz.func73, Tryz.ntmps73
    go_wp2_with (first
      | (refine wpl_boxA (vs := x.cells) rfl (.tmp 0) rfl rfl st ?_; rintro B w1 s1)
      | (refine wpl_allocA rfl rfl zeroRO_z s1 ?_; rintro E w2 s2)
      | (refine wpl_loadA (vs := x.cells) rfl (.tmp 2) (by rfl) aggRO (by rfl) (RO.len HH.out) (St.rowAll (o := 0) (St.pick 1 s2)) ?_)
      | (go_at_call 116; refine rfresh_c HH.out (St.pick 2 s2) ?_; rintro y w3 hy s3
         have HY := hid hy
         have HYO := hid (HO.out.freshRO hy)
         clear hy s2)
      | (refine wpl_storeA (vs := y.cells) rfl (.tmp 2) (.tmp 7) (by rfl) aggRO (by rfl) (by rfl) (RO.len HYO.out.ro) (RO.one _) (St.pick 2 s3) (RO.len HH.out) ?_; rintro w4 s4)
      | (refine wpl_loadA (vs := y.cells) rfl (.tmp 2) (by rfl) aggRO (by rfl) (RO.len HYO.out.ro) (St.rowAll (o := 0) s4) ?_)
      | (go_at_call 117; refine rnodeO_c HYO.out.ro s4 ?_; rw [HY.out, show onodeB (freshO x.o) (k : Int) = true from HB.out]; clear s4; rintro w4 s4
         have ca := roAct' HYO.out.ro s4 hk
         rw [HY.out, show memB (freshO x.o).V.a (k : Int) = true from HU.out] at ca
         have h0 := roHeard HYO.out.ro s4 hk
         have f0 := roF HYO.out.ro s4 (49 + k) (by omega)
         have s5 : St W _ (row B 0 (y.withH (y.o.heard.set k 0)).cells :: (y.withH (y.o.heard.set k 0)).mem W :: row E 0 zeroRO.cells :: R) := roSetH HYO.out.ro s4 hk 0
         have HZO : Hid (OOK (y.withH (y.o.heard.set k 0)).o) := hid ⟨HYO.out.v, HYO.out.cl, by show (y.o.heard.set k 0).length = 12; rw [List.length_set]; exact HYO.out.hl, HYO.out.r⟩)
      | (refine wpl_loadA (vs := (y.withH (y.o.heard.set k 0)).cells) rfl (.tmp 2) (by rfl) aggRO (by rfl) (RO.len HZO.out.ro) (St.rowAll (o := 0) s5) ?_)
      | (go_at_call 121; refine rlearnO_c (x := (y.withH (y.o.heard.set k 0))) HZO.out (St.pick 1 s5) ?_; rintro v w6 hv s6
         have HVV := hid hv
         have HVO : Hid v.ok := hid (by rw [RO.ok, hv]; exact HZO.out.ro)
         clear hv)
      | (refine wpl_storeA (vs := v.cells) rfl (.tmp 4) (.tmp 23) (by rfl) aggRO (by rfl) (by rfl) (RO.len HVO.out) (RO.one _) (St.pick 2 s6) zeroRO_len ?_; rintro w9 s9))
    have hL := run_loadA aggRO (RO.len HVO.out) s9.rowAll
    exact bodyPost_ret (v := .tuple #[.agg v.cells.toArray, .int .i64 0]) (by simp [results, Tryz.results73, asAddr, hL]) rfl (HK.out v _ (by
      rw [HVV.out]
      unfold heardO
      rw [show memB (freshO x.o).V.a (k : Int) = true from HU.out]
      rw [if_pos rfl, Int.toNat_natCast]; show learnO { y.o with heard := y.o.heard.set k 0 } _ = _; rw [HY.out]) (St.drop (St.pick 1 s9.drop)))
  | false =>
    go_enter Tryz.func73, Tryz.ntmps73
    go_wp2_with (first
      | (refine wpl_boxA (vs := x.cells) rfl (.tmp 0) rfl rfl st ?_; rintro B w1 s1)
      | (refine wpl_allocA rfl rfl zeroRO_z s1 ?_; rintro E w2 s2)
      | (refine wpl_loadA (vs := x.cells) rfl (.tmp 2) (by rfl) aggRO (by rfl) (RO.len HH.out) (St.rowAll (o := 0) (St.pick 1 s2)) ?_)
      | (go_at_call 116; refine rfresh_c HH.out (St.pick 2 s2) ?_; rintro y w3 hy s3
         have HY := hid hy
         have HYO := hid (HO.out.freshRO hy)
         clear hy s2)
      | (refine wpl_storeA (vs := y.cells) rfl (.tmp 2) (.tmp 7) (by rfl) aggRO (by rfl) (by rfl) (RO.len HYO.out.ro) (RO.one _) (St.pick 2 s3) (RO.len HH.out) ?_; rintro w4 s4)
      | (refine wpl_loadA (vs := y.cells) rfl (.tmp 2) (by rfl) aggRO (by rfl) (RO.len HYO.out.ro) (St.rowAll (o := 0) s4) ?_)
      | (go_at_call 117; refine rnodeO_c HYO.out.ro s4 ?_; rw [HY.out, show onodeB (freshO x.o) (k : Int) = true from HB.out]; clear s4; rintro w4 s4
         have ca := roAct' HYO.out.ro s4 hk
         rw [HY.out, show memB (freshO x.o).V.a (k : Int) = false from HU.out] at ca
         have s5 := s4
         have HZO := HYO)
      | (refine wpl_loadA (vs := y.cells) rfl (.tmp 2) (by rfl) aggRO (by rfl) (RO.len HZO.out.ro) (St.rowAll (o := 0) s5) ?_)
      | (go_at_call 121; refine rlearnO_c (x := y) HZO.out (St.pick 1 s5) ?_; rintro v w6 hv s6
         have HVV := hid hv
         have HVO : Hid v.ok := hid (by rw [RO.ok, hv]; exact HZO.out.ro)
         clear hv)
      | (refine wpl_storeA (vs := v.cells) rfl (.tmp 4) (.tmp 23) (by rfl) aggRO (by rfl) (by rfl) (RO.len HVO.out) (RO.one _) (St.pick 2 s6) zeroRO_len ?_; rintro w9 s9))
    have hL := run_loadA aggRO (RO.len HVO.out) s9.rowAll
    exact bodyPost_ret (v := .tuple #[.agg v.cells.toArray, .int .i64 0]) (by simp [results, Tryz.results73, asAddr, hL]) rfl (HK.out v _ (by
      rw [HVV.out]
      unfold heardO
      rw [show memB (freshO x.o).V.a (k : Int) = false from HU.out]
      rw [if_neg Bool.noConfusion, HY.out]) (St.drop (St.pick 1 s9.drop)))

end

end Go.Proofs.YtbpdchaeakihkaaGreat

/- The document's overlay: others, Leave. -/
namespace Go.Proofs.YtbpdchaeakihkaaGreat
open Go.RowKit Go.Qd

/-- The neighbours but two, among some. -/
def othF (l : List Int) (p q : Int) : List Int := l.filter fun z => !memB [p, q] z
theorem oth_is (O : OV) (p q : Int) : othersL O [p, q] = othF O.V.a p q := rfl
theorem memB2 (p q z : Int) : memB [p, q] z = (z == p || z == q) := by
  by_cases h1 : z = p
  · subst h1; rw [memB_yes (by simp)]; simp
  · by_cases h2 : z = q
    · subst h2; rw [memB_yes (by simp)]; simp
    · rw [memB_no (by simp [h1, h2])]; simp [h1, h2]
theorem oth_snoc {l : List Int} {i : Nat} (h : i < l.length) (p q : Int) : othF (l.take (i + 1)) p q = othF (l.take i) p q ++ (if (l[i] != p && l[i] != q) = true then [l[i]] else []) := by
  unfold othF
  rw [List.take_succ_eq_append_getElem h, List.filter_append]
  congr 1
  rw [List.filter_cons, memB2]
  by_cases h1 : l[i] = p
  · simp [h1]
  · by_cases h2 : l[i] = q
    · simp [h2]
    · simp [h1, h2]

section
variable {W w : World} {R : List HP} {post : Ending → World → Prop} {x : RO} {p q : Int}

set_option maxRecDepth 100000 in
set_option maxHeartbeats 4000000 in
theorem rothers_c (h : OOK x.o) (st : St W w R) (K : ∀ a n c w', St W w' (OwnS 1 a n c (ivs (othersL x.o [p, q])) :: R) → post (.returned (.slice a n c)) w') :
    Calls Tryz.prog 123 #[.agg x.cells.toArray, .int .i64 p, .int .i64 q] w post := by
  have HH := hid h.ro
  have HS := hid h.v.sa
  have HN : Hid (∀ x_1 ∈ x.o.V.a, nodeB x_1 = true) := hid (fun z hz => (h.v.na z hz).1)
  have HA : Hid (x.o.V.a.length ≤ 11) := hid (by have := h.v.la; have := h.v.am; omega)
  rw [oth_is] at K
  have HK := hid K; clear K
  clear h
  obtain ⟨A, hA⟩ : ∃ A, x.o.V.a = A := ⟨_, rfl⟩
  have HAE := hid hA
  rw [hA] at HS HN HA HK
  clear hA
  obtain ⟨na, hna⟩ : ∃ na, A.length = na := ⟨_, rfl⟩
  have HNA := hid hna
  have hna11 : na ≤ 11 := by rw [← hna]; exact HA.out
  clear hna
  go_enter Tryz.func123, Tryz.ntmps123
  go_wp2_with (first
    | (refine wpl_boxA (vs := x.cells) rfl (.tmp 0) rfl rfl st ?_; rintro B w1 s1; have s2 := OwnS.empty (sz := 1) (s1.alloc #[] 3).drop (some ⟨w1.heap.size, 0, none⟩))
    | (refine wpl_loadA (vs := bits A) rfl (.tmp 12) (by rfl) aggB12 (by rfl) (bits_len _) (by rw [← HAE.out]; exact roBitsA HH.out (St.pick 1 s2)) ?_)
    | (go_at_call 29; refine list_c s2 HS.out HN.out ?_; rw [HNA.out]; rintro al cl w3 s3))
  go_loopw [7, 9] (fun ov ii wr => ∃ (i n c : Nat) (a : Option Addr), i ≤ na ∧ ii = .int .i64 i ∧ ov = .slice a n c ∧ n ≤ i ∧ St W wr (OwnS 1 a n c (ivs (othF (A.take i) p q)) :: OwnS 1 al na cl (ivs A) :: row B 0 x.cells :: R)) (fun _ ii _ => na - (intOf ii).toNat)
  case atStart => exact ⟨0, 0, 0, _, Nat.zero_le _, rfl, rfl, Nat.le_refl _, St.pick 1 s3⟩
  case round =>
    clear s1 s2 s3
    obtain ⟨i, n, c, a, hi, rfl, rfl, hn, sr⟩ := hrel
    by_cases hlt : i < na
    · have hi2 : (i : Int) < (na : Int) := by omega
      have rd := OwnS.rd (St.pick 1 sr)
      obtain ⟨g3, o3, rfl⟩ := rd.addr (by omega)
      have hiA : i < A.length := by rw [HNA.out]; exact hlt
      have ci := rd.at (ivs_get hiA)
      have hsn := oth_snoc hiA p q
      obtain ⟨t, ht⟩ : ∃ t, A[i] = t := ⟨_, rfl⟩
      rw [ht] at ci hsn
      obtain ⟨b1, h1⟩ : ∃ b, (t != p) = b := ⟨_, rfl⟩
      obtain ⟨b2, h2⟩ : ∃ b, (t != q) = b := ⟨_, rfl⟩
      rw [h1, h2] at hsn
      have HSN := hid hsn
      clear ht rd hiA hsn
      cases b1 with
      | false =>
        go_wp2_with fail
        go_roundw
        case rel => exact ⟨i + 1, n, c, a, by omega, by go_num, rfl, by omega, by rw [HSN.out]; simp only [Bool.false_and, Bool.false_eq_true, if_false, List.append_nil]; exact sr⟩
        case measure => simp [intOf]; omega
      | true =>
        cases b2 with
        | false =>
          go_wp2_with fail
          go_roundw
          case rel => exact ⟨i + 1, n, c, a, by omega, by go_num, rfl, by omega, by rw [HSN.out]; simp only [Bool.and_false, Bool.false_eq_true, if_false, List.append_nil]; exact sr⟩
          case measure => simp [intOf]; omega
        | true =>
          have s4 := sr.alloc #[.int .i64 t] 3
          have hb1 : (n + 1) * 8 ≤ 140737488355328 := by omega
          have hm1 : n + 1 ≤ maxLen := by unfold maxLen; omega
          go_wp2_with (at_builtin; refine wpl_append rfl (.tmp 35) (.tmp 40) rfl Tryz.elem24 rfl rfl (St.pick 1 s4) (St.rowRd (n := 1) s4 rfl (by decide) (ivs_one [t])) hb1 hm1 ?_; rintro a5 c5 w5 s5)
          go_roundw
          case rel => exact ⟨i + 1, n + 1, c5, a5, by omega, by go_num, rfl, by omega, by rw [HSN.out]; simp only [Bool.and_self, if_true]; rw [ivs_append]; exact (St.pick 1 s5).drop⟩
          case measure => simp [intOf]; omega
    · have hie : na = i := by omega
      subst hie
      rw [List.take_of_length_le (by rw [HNA.out]; exact Nat.le_refl _)] at sr
      go_wp2_with fail
      exact HK.out _ _ _ _ (St.drop (St.pick 1 (St.drop (St.pick 1 sr))))

attribute [local go_sem ↓] execOp_bM1 execOp_ldRO execOp_stRO
attribute [local go_sem] run_bM1

set_option maxRecDepth 100000 in
set_option maxHeartbeats 8000000 in
theorem rleaveO_c (h : OOK x.o) (st : St W w (x.mem W :: R)) (K : ∀ (x' : RO) w', x'.o = leaveO (freshO x.o) → St W w' (x'.mem W :: R) → post (.returned (.agg x'.cells.toArray)) w') :
    Calls Tryz.prog 72 #[.agg x.cells.toArray] w post := by
  have HH := hid h.ro
  have HO := hid h
  have HS := hid h.v.sa
  have HN : Hid (∀ x_1 ∈ x.o.V.a, nodeB x_1 = true) := hid (fun z hz => (h.v.na z hz).1)
  have HA : Hid (x.o.V.a.length ≤ 11) := hid (by have := h.v.la; have := h.v.am; omega)
  have HK := hid K; clear K
  clear h
  obtain ⟨A, hA⟩ : ∃ A, x.o.V.a = A := ⟨_, rfl⟩
  have HAE := hid hA
  rw [hA] at HS HN HA
  clear hA
  obtain ⟨na, hna⟩ : ∃ na, A.length = na := ⟨_, rfl⟩
  have HNA := hid hna
  have hna11 : na ≤ 11 := by rw [← hna]; exact HA.out
  clear hna
  go_enter Tryz.func72, Tryz.ntmps72
  go_wp2_with (first
    | (refine wpl_boxA (vs := x.cells) rfl (.tmp 0) rfl rfl st ?_; rintro B w1 s1)
    | (refine wpl_allocA rfl rfl zeroRO_z s1 ?_; rintro E w2 s2; have lx := roLd HH.out (St.pick 1 s2))
    | (go_at_call 116; refine rfresh_c HH.out (St.pick 2 s2) ?_; rintro y w3 hy s3
       have HY := hid hy
       have HYO := hid (HO.out.freshRO hy)
       clear hy s2)
    | (refine wpl_storeA (vs := y.cells) rfl (.tmp 1) (.tmp 6) (by rfl) aggRO (by rfl) (by rfl) (RO.len HYO.out.ro) (RO.one _) (St.pick 2 s3) (RO.len HH.out) ?_; rintro w4 s4)
    | (refine wpl_loadA (vs := bits A) rfl (.tmp 8) (by rfl) aggB12 (by rfl) (bits_len _) (by rw [← HAE.out]; have := roBitsA HYO.out.ro s4; rw [HY.out] at this; exact this) ?_)
    | (go_at_call 29; refine list_c s4 HS.out HN.out ?_; rw [HNA.out]; rintro al cl w5 s5))
  go_loopw [4] (fun ii wr => ∃ (i : Nat) (z : RO), i ≤ na ∧ ii = .int .i64 i ∧ Hid (z.o = leaveAllO (freshO x.o) (A.take i)) ∧ St W wr (row B 0 z.cells :: z.mem W :: OwnS 1 al na cl (ivs A) :: row E 0 zeroRO.cells :: R)) (fun ii _ => na - (intOf ii).toNat)
  case atStart => exact ⟨0, y, Nat.zero_le _, rfl, HY, s5.perm [1, 1]⟩
  case round =>
    clear s1 s3 s4 s5 lx
    obtain ⟨i, z, hi, rfl, HZ, sr⟩ := hrel
    have HZO : Hid (OOK z.o ∧ z.o.L.length ≤ 100 ∧ z.o.C.length ≤ 100) := hid (by
      obtain ⟨g1, g2, g3⟩ := leaveAll_ok (A.take i) (OOK.fresh HO.out)
      have hl : (A.take i).length ≤ 11 := Nat.le_trans (List.length_take_le' _ _) HA.out
      rw [HZ.out]
      exact ⟨g1, Nat.le_trans g2 (by show 0 + _ ≤ 100; omega), Nat.le_trans g3 (by show 0 + _ ≤ 100; omega)⟩)
    by_cases hlt : i < na
    · have hi2 : (i : Int) < (na : Int) := by omega
      have rd := OwnS.rd (St.pick 2 sr.drew)
      obtain ⟨g3, o3, rfl⟩ := rd.addr (by omega)
      have hiA : i < A.length := by rw [HNA.out]; exact hlt
      have ci := rd.at (ivs_get hiA)
      have hsn := leave_snoc (freshO x.o) hiA
      have HCI : Hid (∀ (w : World), RdS w 1 (some ⟨g3, o3, none⟩) na cl (ivs A) → w.cell? ⟨g3, o3 + i, none⟩ = some (iv A[i])) := hid (fun w rd => rd.at (ivs_get hiA))
      obtain ⟨t, ht⟩ : ∃ t, A[i] = t := ⟨_, rfl⟩
      simp only [ht] at ci hsn HCI
      rw [← HZ.out] at hsn
      have HSN := hid hsn
      clear ht rd hiA hsn
      have lz := roLd HZO.out.1.ro sr.drew
      have u := sr.drew
      go_wp2_with fail
      go_region_law (first
        | (go_simp; go_at_call 118; refine rsend_c (x := z) (m := kindM 6) HZO.out.1.ro (Nat.le_trans HZO.out.2.1 (by decide)) (St.pick 1 (kindR 6 (St.pick 1 u))) ?_; rintro v w6 hv s6
           have HVV := hid hv
           have HVO : Hid (OOK v.o ∧ v.o.C.length ≤ 1000) := hid (by rw [hv]; exact ⟨⟨HZO.out.1.v, HZO.out.1.cl, HZO.out.1.hl, HZO.out.1.r⟩, Nat.le_trans HZO.out.2.2 (by decide)⟩)
           have cj := HCI.out _ (OwnS.rd (St.pick 2 s6))
           clear hv)
        | (go_simp; go_at_call 120; refine rlowerO_c (x := v) HVO.out.1 HVO.out.2 s6 ?_; rintro y2 w7 hy2 s7
           have HY2 := hid hy2
           have HYO2 : Hid (OOK y2.o) := hid (by rw [hy2]; exact HVO.out.1.lower t)
           have rS := run_storeG aggRO (b := B) (o := 0) ((St.pick 1 s7).roomG (RO.len HZO.out.1.ro)) (RO.oneG HYO2.out.ro)
           have s8 := (St.pick 1 s7).setAll (vs := y2.cells) (by rw [RO.len HYO2.out.ro, RO.len HZO.out.1.ro])
           clear hy2))
      all_goals
        go_wp2_with fail
        go_roundw
        case rel => exact ⟨i + 1, y2, by omega, by go_num, hid (by rw [HSN.out, HY2.out, HVV.out]; rfl), s8⟩
        case measure => simp [intOf]; omega
    · have hie : na = i := by omega
      subst hie
      rw [List.take_of_length_le (by rw [HNA.out]; exact Nat.le_refl _)] at HZ
      have lz := roLd HZO.out.1.ro sr
      have rS := run_storeG aggRO (b := E) (o := 0) ((St.pick 3 sr).roomG zeroRO_len) (RO.oneG HZO.out.1.ro)
      have s8 := (St.pick 3 sr).setAll (vs := z.cells) (by rw [RO.len HZO.out.1.ro, zeroRO_len])
      go_wp2_with fail
      have hL := run_loadA aggRO (RO.len HZO.out.1.ro) s8.rowAll
      exact bodyPost_ret (v := .agg z.cells.toArray) (by simp [results, Tryz.results72, asAddr, hL]) rfl (HK.out z _ (by rw [HZ.out]; unfold leaveO; rw [show (freshO x.o).V.a = A from HAE.out]) (St.drop (St.pick 1 (s8.dropN 2))))
end

end Go.Proofs.YtbpdchaeakihkaaGreat
