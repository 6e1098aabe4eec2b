/- The overlay in memory: letters, changes; turn, send. -/
import Derived.Test.YtbpdchaeakihkaaGreatOverD
import Derived.Test.YtbpdchaeakihkaaGreatDiceC
namespace Go.Proofs.YtbpdchaeakihkaaGreat
open Go.RowKit Go.Qd

/-- A message. -/
structure MsgV where
  kind : Int
  peer : Int
  hops : Int
  high : Bool
  pa : Option Addr
  pn : Nat
  pc : Nat
  ps : List Int
  number : Int
  sum : Int
  mc : Int
  ms : Int
  key : ByteArray
  ma : Option Addr
  mn : Nat
  mq : Nat
  ea : Option Addr
  en : Nat
  eq : Nat
def MsgV.cells (m : MsgV) : List Value := [.int .i64 m.kind, .int .i64 m.peer, .int .i64 m.hops, .bool m.high, .slice m.pa m.pn m.pc, .int .i64 m.number, .int .u64 m.sum, .int .i64 m.mc, .int .i64 m.ms, .string m.key, .slice m.ma m.mn m.mq, .slice m.ea m.en m.eq]
structure LetV where
  to : Int
  m : MsgV
def LetV.cells (x : LetV) : List Value := .int .i64 x.to :: x.m.cells
def LetV.own (x : LetV) : HP := OwnS 1 x.m.pa x.m.pn x.m.pc (ivs x.m.ps)
def letC (L : List LetV) : List Value := (L.map LetV.cells).flatten
def chC (C : List (Int × Bool)) : List Value := (C.map fun x => [Value.int .i64 x.1, .bool x.2]).flatten
theorem letC_snoc (L : List LetV) (x : LetV) : letC (L ++ [x]) = letC L ++ x.cells := by simp [letC]
theorem chC_snoc (C : List (Int × Bool)) (x : Int × Bool) : chC (C ++ [x]) = chC C ++ [.int .i64 x.1, .bool x.2] := by simp [chC]
theorem letC_size (L : List LetV) : (letC L).length = L.length * 13 := by
  induction L with
  | nil => rfl
  | cons x L ih => show (x.cells ++ letC L).length = _; rw [List.length_append, ih, List.length_cons]; simp [LetV.cells, MsgV.cells]; omega
theorem chC_size (C : List (Int × Bool)) : (chC C).length = C.length * 2 := by
  induction C with
  | nil => rfl
  | cons x C ih => show ([Value.int .i64 x.1, .bool x.2] ++ chC C).length = _; rw [List.length_append, ih, List.length_cons]; simp; omega
theorem own_snoc {W w : World} {R : List HP} {L : List LetV} {x : LetV} (s : St W w (sepL (L.map LetV.own) :: x.own :: R)) : St W w (sepL ((L ++ [x]).map LetV.own) :: R) := by
  have s1 : St W w ((L.map LetV.own) ++ (x.own :: R)) := (St.flat _).1 s
  have e : (L.map LetV.own) ++ (x.own :: R) = ((L ++ [x]).map LetV.own) ++ R := by simp
  rw [e] at s1
  exact (St.flat _).2 s1

/-- What came about, in memory. -/
def NewsA (b o : Nat) (L : List LetV) (C : List (Int × Bool)) : HP := fun h => ∃ x : (Option Addr × Nat × Nat) × (Option Addr × Nat × Nat),
  sepL [row b o [.slice x.1.1 x.1.2.1 x.1.2.2, .slice x.2.1 x.2.2.1 x.2.2.2], OwnS 13 x.1.1 x.1.2.1 x.1.2.2 (letC L), OwnS 2 x.2.1 x.2.2.1 x.2.2.2 (chC C), sepL (L.map LetV.own)] h

section
variable {W w : World} {R : List HP} {post : Ending → World → Prop} {b o : Nat} {L : List LetV} {C : List (Int × Bool)}

theorem NewsA.open (st : St W w (NewsA b o L C :: R)) : ∃ la ln lc ca cn cc, St W w (row b o [.slice la ln lc, .slice ca cn cc] :: OwnS 13 la ln lc (letC L) :: OwnS 2 ca cn cc (chC C) :: sepL (L.map LetV.own) :: R) := by
  obtain ⟨x, s⟩ := St.ex (F := fun (x : (Option Addr × Nat × Nat) × (Option Addr × Nat × Nat)) h => sepL [row b o [.slice x.1.1 x.1.2.1 x.1.2.2, .slice x.2.1 x.2.2.1 x.2.2.2], OwnS 13 x.1.1 x.1.2.1 x.1.2.2 (letC L), OwnS 2 x.2.1 x.2.2.1 x.2.2.2 (chC C), sepL (L.map LetV.own)] h) st
  exact ⟨_, _, _, _, _, _, (St.flat _).1 s⟩
theorem NewsA.close {la ca : Option Addr} {ln lc cn cc : Nat} (st : St W w (row b o [.slice la ln lc, .slice ca cn cc] :: OwnS 13 la ln lc (letC L) :: OwnS 2 ca cn cc (chC C) :: sepL (L.map LetV.own) :: R)) : St W w (NewsA b o L C :: R) :=
  ((St.flat [row b o [.slice la ln lc, .slice ca cn cc], OwnS 13 la ln lc (letC L), OwnS 2 ca cn cc (chC C), sepL (L.map LetV.own)]).2 st).imp fun _ x => ⟨((la, ln, lc), (ca, cn, cc)), x⟩

theorem Tryz.elem37 : ElemT Tryz.prog 37 85 2 16 := ElemT.mk' Tryz.underlying37 (by kernel_rfl : (Tryz.prog.info? 85).map (fun i => (i.zero, i.size, i.bytes)) = some (some (.agg #[.int .i64 0, .bool false]), 2, 16)) rfl (by decide) (by simp [Value.cells, Value.oneCell'])
theorem Tryz.elem36 : ElemT Tryz.prog 36 60 13 160 := ElemT.mk' Tryz.underlying36 (by kernel_rfl : (Tryz.prog.info? 60).map (fun i => (i.zero, i.size, i.bytes)) = some (some (.agg #[.int .i64 0, .int .i64 0, .int .i64 0, .int .i64 0, .bool false, .slice none 0 0, .int .i64 0, .int .u64 0, .int .i64 0, .int .i64 0, .string ByteArray.empty, .slice none 0 0, .slice none 0 0]), 13, 160)) rfl (by decide) (by simp [Value.cells, Value.oneCell'])

theorem boxQ {x y : Value} (s : St W w (row b o [x, y] :: R)) : w.cell? ⟨b, o, none⟩ = some x ∧ w.cell? ⟨b, o + 1, none⟩ = some y ∧ w.frozen? ⟨b, o, none⟩ = false ∧ w.frozen? ⟨b, o + 1, none⟩ = false :=
  ⟨s.rowCell (i := 0) rfl, s.rowCell (i := 1) rfl, s.rowFree (i := 0) (by simp), s.rowFree (i := 1) (by simp)⟩

set_option maxRecDepth 100000 in
set_option maxHeartbeats 2000000 in
theorem turn_c {p : Int} {up : Bool} (st : St W w (NewsA b o L C :: R)) (hC : C.length ≤ 4096) (K : ∀ w', St W w' (NewsA b o L (C ++ [(p, up)]) :: R) → post (.returned (.tuple #[])) w') :
    Calls Tryz.prog 86 #[.pointer (some ⟨b, o, none⟩), .int .i64 p, .bool up] w post := by
  have HK := hid K; clear K
  obtain ⟨la, ln, lc, ca, cn, cc, s⟩ := NewsA.open st
  obtain ⟨g0, g1, f0, f1⟩ := boxQ s
  have hcn : cn = C.length := by have := (OwnS.rd (St.pick 2 s)).len; rw [chC_size] at this; omega
  have hb1 : (cn + 1) * 16 ≤ 140737488355328 := by omega
  have hm1 : cn + 1 ≤ maxLen := by unfold maxLen; omega
  have s1 := s.alloc #[.int .i64 p, .bool up] 85
  have r1 := St.rowRd (sz := 2) (n := 1) s1 rfl (by decide) (by simp [Value.oneCell'])
  have s2 := St.pick 3 s1
  clear hcn
  go_enter Tryz.func86, Tryz.ntmps86
  go_wp2_with (at_builtin; refine wpl_append rfl (.tmp 10) (.tmp 14) rfl Tryz.elem37 rfl rfl s2 r1 hb1 hm1 ?_; rintro a3 c3 w3 s3; obtain ⟨k0, k1, l0, l1⟩ := boxQ (St.pick 2 s3))
  go_end0
  have s4 : St W _ (row b o [.slice la ln lc, .slice a3 (cn + 1) c3] :: _) := (St.pick 2 s3).rowSet (i := 1) (by simp) (.slice a3 (cn + 1) c3)
  refine HK.out _ (NewsA.close (la := la) (ln := ln) (lc := lc) (ca := a3) (cn := cn + 1) (cc := c3) ?_)
  rw [chC_snoc]
  exact ((St.pick 2 s4).drop).perm [0, 1]

theorem boxM {B : Nat} {m : MsgV} (s : St W w (row B 0 m.cells :: R)) :
    w.cell? ⟨B, 0, none⟩ = some (.int .i64 m.kind) ∧ w.cell? ⟨B, 1, none⟩ = some (.int .i64 m.peer) ∧ w.cell? ⟨B, 2, none⟩ = some (.int .i64 m.hops) ∧ w.cell? ⟨B, 3, none⟩ = some (.bool m.high) ∧
    w.cell? ⟨B, 4, none⟩ = some (.slice m.pa m.pn m.pc) ∧ w.cell? ⟨B, 5, none⟩ = some (.int .i64 m.number) ∧ w.cell? ⟨B, 6, none⟩ = some (.int .u64 m.sum) ∧ w.cell? ⟨B, 7, none⟩ = some (.int .i64 m.mc) ∧
    w.cell? ⟨B, 8, none⟩ = some (.int .i64 m.ms) ∧ w.cell? ⟨B, 9, none⟩ = some (.string m.key) ∧ w.cell? ⟨B, 10, none⟩ = some (.slice m.ma m.mn m.mq) ∧ w.cell? ⟨B, 11, none⟩ = some (.slice m.ea m.en m.eq) := by
  have f : ∀ i v, m.cells[i]? = some v → w.cell? ⟨B, i, none⟩ = some v := fun i v h => by have := s.rowCell h; rwa [Nat.zero_add] at this
  exact ⟨f 0 _ rfl, f 1 _ rfl, f 2 _ rfl, f 3 _ rfl, f 4 _ rfl, f 5 _ rfl, f 6 _ rfl, f 7 _ rfl, f 8 _ rfl, f 9 _ rfl, f 10 _ rfl, f 11 _ rfl⟩

theorem agg58 : AggT Tryz.prog 58 12 := ⟨⟨_, Tryz.underlying58, rfl⟩, by kernel_rfl⟩
theorem msg_one (m : MsgV) : ∀ u ∈ m.cells, u.oneCell' = true := by
  intro u hu; simp only [MsgV.cells, List.mem_cons, List.not_mem_nil, or_false] at hu
  rcases hu with rfl | rfl | rfl | rfl | rfl | rfl | rfl | rfl | rfl | rfl | rfl | rfl <;> rfl
theorem let_one (x : LetV) : ∀ u ∈ x.cells, u.oneCell' = true := by
  intro u hu
  rcases List.mem_cons.1 hu with rfl | h
  · rfl
  · exact msg_one _ u h

theorem execOp_load58 (ρ : Operand → Value) (dst : Option Tmp) (a : Operand) (ty : TypeId) (pos : String) (after : Array Edge) (guard : Option (Nat × Bool)) :
    execOp ρ { dst, op := .load 58 a, type := ty, pos, after, guard } = (do pure (.value (← loadG 58 (ρ a)))) := rfl
theorem lg58 {B : Nat} {m : MsgV} (s : St W w (row B 0 m.cells :: R)) : (loadG 58 (.pointer (some ⟨B, 0, none⟩))).run Tryz.prog w = .ok (.agg m.cells.toArray) w := run_loadG agg58 rfl s.rowAll
def buildG (t : TypeId) (x y : Value) : Sem Value := Instr.build t #[(0, x), (1, y)]
def bsG (t : TypeId) (x : Value) : Sem Value := Instr.buildSlice t 1 #[(0, x)]
theorem execOp_build60 (ρ : Operand → Value) (dst : Option Tmp) (a c : Operand) (ty : TypeId) (pos : String) (after : Array Edge) (guard : Option (Nat × Bool)) :
    execOp ρ { dst, op := .build 60 #[(0, a), (1, c)], type := ty, pos, after, guard } = (do pure (.value (← buildG 60 (ρ a) (ρ c)))) := by simp [execOp, buildG]
theorem execOp_bs36 (ρ : Operand → Value) (dst : Option Tmp) (a : Operand) (ty : TypeId) (pos : String) (after : Array Edge) (guard : Option (Nat × Bool)) :
    execOp ρ { dst, op := .buildSlice 36 1 #[(0, a)], type := ty, pos, after, guard } = (do pure (.value (← bsG 36 (ρ a)))) := by simp [execOp, bsG]
theorem run_build60 (to : Int) (m : MsgV) (w : World) : (buildG 60 (.int .i64 to) (.agg m.cells.toArray)).run Tryz.prog w = .ok (.agg (LetV.cells ⟨to, m⟩).toArray) w := by kernel_rfl
theorem run_bs36 (x : LetV) (w : World) : (bsG 36 (.agg x.cells.toArray)).run Tryz.prog w = .ok (.slice (some ⟨w.heap.size, 0, none⟩) 1 1) (w.alloc (.cells x.cells.toArray 60)) := by kernel_rfl
attribute [local go_sem ↓] execOp_load58 execOp_build60 execOp_bs36
attribute [local go_sem] run_build60 run_bs36

set_option maxRecDepth 100000 in
set_option maxHeartbeats 2000000 in
theorem send_c {to : Int} {m : MsgV} (st : St W w (NewsA b o L C :: OwnS 1 m.pa m.pn m.pc (ivs m.ps) :: R)) (hL : L.length ≤ 4096) (K : ∀ w', St W w' (NewsA b o (L ++ [⟨to, m⟩]) C :: R) → post (.returned (.tuple #[])) w') :
    Calls Tryz.prog 44 #[.pointer (some ⟨b, o, none⟩), .int .i64 to, .agg m.cells.toArray] w post := by
  have HK := hid K; clear K
  obtain ⟨la, ln, lc, ca, cn, cc, s⟩ := NewsA.open st
  have hln : ln = L.length := by have := (OwnS.rd (St.pick 1 s)).len; rw [letC_size] at this; omega
  have hb1 : (ln + 1) * 160 ≤ 140737488355328 := by omega
  have hm1 : ln + 1 ≤ maxLen := by unfold maxLen; omega
  clear hln
  go_enter Tryz.func44, Tryz.ntmps44
  go_wp2_with (refine wpl_boxA (vs := m.cells) rfl (.tmp 2) rfl rfl s ?_; rintro T w1 s1)
  have f1 := lg58 s1.drew
  obtain ⟨g0, _, h0, _⟩ := boxQ (St.pick 1 s1.drew)
  have s2 : St W _ (row w1.heap.size 0 (LetV.cells ⟨to, m⟩) :: _) := (s1.alloc (LetV.cells ⟨to, m⟩).toArray 60).drew
  have r2 := St.rowRd (sz := 13) (n := 1) s2 rfl (by decide) (let_one _)
  obtain ⟨g2, _, h2, _⟩ := boxQ (St.pick 2 s2)
  have f2 := lg58 (St.pick 1 s2)
  have s3 : St W (w1.alloc (.cells (LetV.cells ⟨to, m⟩).toArray 60)).drew (OwnS 13 la ln lc (letC L) :: _) := St.pick 3 s2
  go_region_law (refine step_append_st rfl (.tmp 10) (.tmp 14) rfl Tryz.elem36 rfl rfl s3 r2 hb1 hm1 ?_; rintro a4 c4 w4 s4; obtain ⟨k0, k1, l0, l1⟩ := boxQ (St.pick 3 s4); have f4 := lg58 (St.pick 2 s4))
  all_goals
    go_end0
    have s5 := (St.pick 3 s4).rowSet (i := 0) (by simp) (.slice a4 (ln + 1) c4)
    rw [Nat.add_zero] at s5
    have s5' : St W (w4.setCell ⟨b, o, none⟩ (.slice a4 (ln + 1) c4)) (row b o [.slice a4 (ln + 1) c4, .slice ca cn cc] :: OwnS 13 a4 (ln + 1) c4 (letC L ++ LetV.cells ⟨to, m⟩) :: row w1.heap.size 0 (LetV.cells ⟨to, m⟩) :: row T 0 m.cells :: OwnS 2 ca cn cc (chC C) :: sepL (L.map LetV.own) :: OwnS 1 m.pa m.pn m.pc (ivs m.ps) :: R) := s5
    have s6 := own_snoc (x := ⟨to, m⟩) (s5'.perm [5, 5])
    refine HK.out _ (NewsA.close (la := a4) (ln := ln + 1) (lc := c4) (ca := ca) (cn := cn) (cc := cc) ?_)
    rw [letC_snoc]
    exact ((s6.perm [3, 3]).dropN 2).perm [1, 1, 1]

end

end Go.Proofs.YtbpdchaeakihkaaGreat
