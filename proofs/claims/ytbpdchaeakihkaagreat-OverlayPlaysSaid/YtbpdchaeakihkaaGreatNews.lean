/- News: several texts, joined. The overlay in memory: letters, changes; turn, send. -/
import Derived.Test.YtbpdchaeakihkaaGreatCfs
import Derived.Test.YtbpdchaeakihkaaGreatTv
namespace Go.Proofs.YtbpdchaeakihkaaGreat
open Go.RowKit Go.Qd

/-- A message. -/
structure MsgV where
  kind : Int
  peer : Int
  hops : Int
  high : Bool
  pa : Option Addr
  pn : Nat
  pc : Nat
  ps : List Int
  number : Int
  sum : Int
  mc : Int
  ms : Int
  key : ByteArray
  ma : Option Addr
  mn : Nat
  mq : Nat
  ea : Option Addr
  en : Nat
  eq : Nat
def MsgV.cells (m : MsgV) : List Value := [.int .i64 m.kind, .int .i64 m.peer, .int .i64 m.hops, .bool m.high, .slice m.pa m.pn m.pc, .int .i64 m.number, .int .u64 m.sum, .int .i64 m.mc, .int .i64 m.ms, .string m.key, .slice m.ma m.mn m.mq, .slice m.ea m.en m.eq]
structure LetV where
  to : Int
  m : MsgV
def LetV.cells (x : LetV) : List Value := .int .i64 x.to :: x.m.cells
def LetV.own (x : LetV) : HP := OwnS 1 x.m.pa x.m.pn x.m.pc (ivs x.m.ps)
def letC (L : List LetV) : List Value := (L.map LetV.cells).flatten
def chC (C : List (Int × Bool)) : List Value := (C.map fun x => [Value.int .i64 x.1, .bool x.2]).flatten
theorem letC_snoc (L : List LetV) (x : LetV) : letC (L ++ [x]) = letC L ++ x.cells := by simp [letC]
theorem chC_snoc (C : List (Int × Bool)) (x : Int × Bool) : chC (C ++ [x]) = chC C ++ [.int .i64 x.1, .bool x.2] := by simp [chC]
theorem letC_size (L : List LetV) : (letC L).length = L.length * 13 := by
  induction L with
  | nil => rfl
  | cons x L ih => show (x.cells ++ letC L).length = _; rw [List.length_append, ih, List.length_cons]; simp [LetV.cells, MsgV.cells]; omega
theorem chC_size (C : List (Int × Bool)) : (chC C).length = C.length * 2 := by
  induction C with
  | nil => rfl
  | cons x C ih => show ([Value.int .i64 x.1, .bool x.2] ++ chC C).length = _; rw [List.length_append, ih, List.length_cons]; simp; omega
theorem own_snoc {W w : World} {R : List HP} {L : List LetV} {x : LetV} (s : St W w (sepL (L.map LetV.own) :: x.own :: R)) : St W w (sepL ((L ++ [x]).map LetV.own) :: R) := by
  have s1 : St W w ((L.map LetV.own) ++ (x.own :: R)) := (St.flat _).1 s
  have e : (L.map LetV.own) ++ (x.own :: R) = ((L ++ [x]).map LetV.own) ++ R := by simp
  rw [e] at s1
  exact (St.flat _).2 s1

/-- What came about, in memory. -/
def NewsA (b o : Nat) (L : List LetV) (C : List (Int × Bool)) : HP := fun h => ∃ x : (Option Addr × Nat × Nat) × (Option Addr × Nat × Nat),
  sepL [row b o [.slice x.1.1 x.1.2.1 x.1.2.2, .slice x.2.1 x.2.2.1 x.2.2.2], OwnS 13 x.1.1 x.1.2.1 x.1.2.2 (letC L), OwnS 2 x.2.1 x.2.2.1 x.2.2.2 (chC C), sepL (L.map LetV.own)] h

section
variable {W w : World} {R : List HP} {post : Ending → World → Prop} {b o : Nat} {L : List LetV} {C : List (Int × Bool)}

theorem NewsA.open (st : St W w (NewsA b o L C :: R)) : ∃ la ln lc ca cn cc, St W w (row b o [.slice la ln lc, .slice ca cn cc] :: OwnS 13 la ln lc (letC L) :: OwnS 2 ca cn cc (chC C) :: sepL (L.map LetV.own) :: R) := by
  obtain ⟨x, s⟩ := St.ex (F := fun (x : (Option Addr × Nat × Nat) × (Option Addr × Nat × Nat)) h => sepL [row b o [.slice x.1.1 x.1.2.1 x.1.2.2, .slice x.2.1 x.2.2.1 x.2.2.2], OwnS 13 x.1.1 x.1.2.1 x.1.2.2 (letC L), OwnS 2 x.2.1 x.2.2.1 x.2.2.2 (chC C), sepL (L.map LetV.own)] h) st
  exact ⟨_, _, _, _, _, _, (St.flat _).1 s⟩
theorem NewsA.close {la ca : Option Addr} {ln lc cn cc : Nat} (st : St W w (row b o [.slice la ln lc, .slice ca cn cc] :: OwnS 13 la ln lc (letC L) :: OwnS 2 ca cn cc (chC C) :: sepL (L.map LetV.own) :: R)) : St W w (NewsA b o L C :: R) :=
  ((St.flat [row b o [.slice la ln lc, .slice ca cn cc], OwnS 13 la ln lc (letC L), OwnS 2 ca cn cc (chC C), sepL (L.map LetV.own)]).2 st).imp fun _ x => ⟨((la, ln, lc), (ca, cn, cc)), x⟩

theorem Tryz.elem37 : ElemT Tryz.prog 37 85 2 16 := ElemT.mk' Tryz.underlying37 (by kernel_rfl : (Tryz.prog.info? 85).map (fun i => (i.zero, i.size, i.bytes)) = some (some (.agg #[.int .i64 0, .bool false]), 2, 16)) rfl (by decide) (by simp [Value.cells, Value.oneCell'])
theorem Tryz.elem36 : ElemT Tryz.prog 36 60 13 160 := ElemT.mk' Tryz.underlying36 (by kernel_rfl : (Tryz.prog.info? 60).map (fun i => (i.zero, i.size, i.bytes)) = some (some (.agg #[.int .i64 0, .int .i64 0, .int .i64 0, .int .i64 0, .bool false, .slice none 0 0, .int .i64 0, .int .u64 0, .int .i64 0, .int .i64 0, .string ByteArray.empty, .slice none 0 0, .slice none 0 0]), 13, 160)) rfl (by decide) (by simp [Value.cells, Value.oneCell'])

theorem boxQ {x y : Value} (s : St W w (row b o [x, y] :: R)) : w.cell? ⟨b, o, none⟩ = some x ∧ w.cell? ⟨b, o + 1, none⟩ = some y ∧ w.frozen? ⟨b, o, none⟩ = false ∧ w.frozen? ⟨b, o + 1, none⟩ = false :=
  ⟨s.rowCell (i := 0) rfl, s.rowCell (i := 1) rfl, s.rowFree (i := 0) (by simp), s.rowFree (i := 1) (by simp)⟩

set_option maxRecDepth 100000 in
set_option maxHeartbeats 2000000 in
theorem turn_c {p : Int} {up : Bool} (st : St W w (NewsA b o L C :: R)) (hC : C.length ≤ 4096) (K : ∀ w', St W w' (NewsA b o L (C ++ [(p, up)]) :: R) → post (.returned (.tuple #[])) w') :
    Calls Tryz.prog 86 #[.pointer (some ⟨b, o, none⟩), .int .i64 p, .bool up] w post := by
  have HK := hid K; clear K
  obtain ⟨la, ln, lc, ca, cn, cc, s⟩ := NewsA.open st
  obtain ⟨g0, g1, f0, f1⟩ := boxQ s
  have hcn : cn = C.length := by have := (OwnS.rd (St.pick 2 s)).len; rw [chC_size] at this; omega
  have hb1 : (cn + 1) * 16 ≤ 140737488355328 := by omega
  have hm1 : cn + 1 ≤ maxLen := by unfold maxLen; omega
  have s1 := s.alloc #[.int .i64 p, .bool up] 85
  have r1 := St.rowRd (sz := 2) (n := 1) s1 rfl (by decide) (by simp [Value.oneCell'])
  have s2 := St.pick 3 s1
  clear hcn
  go_enter Tryz.func86, Tryz.ntmps86
  go_wp2_with (at_builtin; refine wpl_append rfl (.tmp 10) (.tmp 14) rfl Tryz.elem37 rfl rfl s2 r1 hb1 hm1 ?_; rintro a3 c3 w3 s3; obtain ⟨k0, k1, l0, l1⟩ := boxQ (St.pick 2 s3))
  go_end0
  have s4 : St W _ (row b o [.slice la ln lc, .slice a3 (cn + 1) c3] :: _) := (St.pick 2 s3).rowSet (i := 1) (by simp) (.slice a3 (cn + 1) c3)
  refine HK.out _ (NewsA.close (la := la) (ln := ln) (lc := lc) (ca := a3) (cn := cn + 1) (cc := c3) ?_)
  rw [chC_snoc]
  exact ((St.pick 2 s4).drop).perm [0, 1]

theorem boxM {B : Nat} {m : MsgV} (s : St W w (row B 0 m.cells :: R)) :
    w.cell? ⟨B, 0, none⟩ = some (.int .i64 m.kind) ∧ w.cell? ⟨B, 1, none⟩ = some (.int .i64 m.peer) ∧ w.cell? ⟨B, 2, none⟩ = some (.int .i64 m.hops) ∧ w.cell? ⟨B, 3, none⟩ = some (.bool m.high) ∧
    w.cell? ⟨B, 4, none⟩ = some (.slice m.pa m.pn m.pc) ∧ w.cell? ⟨B, 5, none⟩ = some (.int .i64 m.number) ∧ w.cell? ⟨B, 6, none⟩ = some (.int .u64 m.sum) ∧ w.cell? ⟨B, 7, none⟩ = some (.int .i64 m.mc) ∧
    w.cell? ⟨B, 8, none⟩ = some (.int .i64 m.ms) ∧ w.cell? ⟨B, 9, none⟩ = some (.string m.key) ∧ w.cell? ⟨B, 10, none⟩ = some (.slice m.ma m.mn m.mq) ∧ w.cell? ⟨B, 11, none⟩ = some (.slice m.ea m.en m.eq) := by
  have f : ∀ i v, m.cells[i]? = some v → w.cell? ⟨B, i, none⟩ = some v := fun i v h => by have := s.rowCell h; rwa [Nat.zero_add] at this
  exact ⟨f 0 _ rfl, f 1 _ rfl, f 2 _ rfl, f 3 _ rfl, f 4 _ rfl, f 5 _ rfl, f 6 _ rfl, f 7 _ rfl, f 8 _ rfl, f 9 _ rfl, f 10 _ rfl, f 11 _ rfl⟩

theorem agg58 : AggT Tryz.prog 58 12 := ⟨⟨_, Tryz.underlying58, rfl⟩, by kernel_rfl⟩
theorem msg_one (m : MsgV) : ∀ u ∈ m.cells, u.oneCell' = true := by
  intro u hu; simp only [MsgV.cells, List.mem_cons, List.not_mem_nil, or_false] at hu
  rcases hu with rfl | rfl | rfl | rfl | rfl | rfl | rfl | rfl | rfl | rfl | rfl | rfl <;> rfl
theorem let_one (x : LetV) : ∀ u ∈ x.cells, u.oneCell' = true := by
  intro u hu
  rcases List.mem_cons.1 hu with rfl | h
  · rfl
  · exact msg_one _ u h

theorem execOp_load58 (ρ : Operand → Value) (dst : Option Tmp) (a : Operand) (ty : TypeId) (pos : String) (after : Array Edge) (guard : Option (Nat × Bool)) :
    execOp ρ { dst, op := .load 58 a, type := ty, pos, after, guard } = (do pure (.value (← loadG 58 (ρ a)))) := rfl
theorem lg58 {B : Nat} {m : MsgV} (s : St W w (row B 0 m.cells :: R)) : (loadG 58 (.pointer (some ⟨B, 0, none⟩))).run Tryz.prog w = .ok (.agg m.cells.toArray) w := run_loadG agg58 rfl s.rowAll
def buildG (t : TypeId) (x y : Value) : Sem Value := Instr.build t #[(0, x), (1, y)]
def bsG (t : TypeId) (x : Value) : Sem Value := Instr.buildSlice t 1 #[(0, x)]
theorem execOp_build60 (ρ : Operand → Value) (dst : Option Tmp) (a c : Operand) (ty : TypeId) (pos : String) (after : Array Edge) (guard : Option (Nat × Bool)) :
    execOp ρ { dst, op := .build 60 #[(0, a), (1, c)], type := ty, pos, after, guard } = (do pure (.value (← buildG 60 (ρ a) (ρ c)))) := by simp [execOp, buildG]
theorem execOp_bs36 (ρ : Operand → Value) (dst : Option Tmp) (a : Operand) (ty : TypeId) (pos : String) (after : Array Edge) (guard : Option (Nat × Bool)) :
    execOp ρ { dst, op := .buildSlice 36 1 #[(0, a)], type := ty, pos, after, guard } = (do pure (.value (← bsG 36 (ρ a)))) := by simp [execOp, bsG]
theorem run_build60 (to : Int) (m : MsgV) (w : World) : (buildG 60 (.int .i64 to) (.agg m.cells.toArray)).run Tryz.prog w = .ok (.agg (LetV.cells ⟨to, m⟩).toArray) w := by kernel_rfl
theorem run_bs36 (x : LetV) (w : World) : (bsG 36 (.agg x.cells.toArray)).run Tryz.prog w = .ok (.slice (some ⟨w.heap.size, 0, none⟩) 1 1) (w.alloc (.cells x.cells.toArray 60)) := by kernel_rfl
attribute [local go_sem ↓] execOp_load58 execOp_build60 execOp_bs36
attribute [local go_sem] run_build60 run_bs36

set_option maxRecDepth 100000 in
set_option maxHeartbeats 2000000 in
theorem send_c {to : Int} {m : MsgV} (st : St W w (NewsA b o L C :: OwnS 1 m.pa m.pn m.pc (ivs m.ps) :: R)) (hL : L.length ≤ 4096) (K : ∀ w', St W w' (NewsA b o (L ++ [⟨to, m⟩]) C :: R) → post (.returned (.tuple #[])) w') :
    Calls Tryz.prog 44 #[.pointer (some ⟨b, o, none⟩), .int .i64 to, .agg m.cells.toArray] w post := by
  have HK := hid K; clear K
  obtain ⟨la, ln, lc, ca, cn, cc, s⟩ := NewsA.open st
  have hln : ln = L.length := by have := (OwnS.rd (St.pick 1 s)).len; rw [letC_size] at this; omega
  have hb1 : (ln + 1) * 160 ≤ 140737488355328 := by omega
  have hm1 : ln + 1 ≤ maxLen := by unfold maxLen; omega
  clear hln
  go_enter Tryz.func44, Tryz.ntmps44
  go_wp2_with (refine wpl_boxA (vs := m.cells) rfl (.tmp 2) rfl rfl s ?_; rintro T w1 s1)
  have f1 := lg58 s1.drew
  obtain ⟨g0, _, h0, _⟩ := boxQ (St.pick 1 s1.drew)
  have s2 : St W _ (row w1.heap.size 0 (LetV.cells ⟨to, m⟩) :: _) := (s1.alloc (LetV.cells ⟨to, m⟩).toArray 60).drew
  have r2 := St.rowRd (sz := 13) (n := 1) s2 rfl (by decide) (let_one _)
  obtain ⟨g2, _, h2, _⟩ := boxQ (St.pick 2 s2)
  have f2 := lg58 (St.pick 1 s2)
  have s3 : St W (w1.alloc (.cells (LetV.cells ⟨to, m⟩).toArray 60)).drew (OwnS 13 la ln lc (letC L) :: _) := St.pick 3 s2
  go_region_law (refine step_append_st rfl (.tmp 10) (.tmp 14) rfl Tryz.elem36 rfl rfl s3 r2 hb1 hm1 ?_; rintro a4 c4 w4 s4; obtain ⟨k0, k1, l0, l1⟩ := boxQ (St.pick 3 s4); have f4 := lg58 (St.pick 2 s4))
  all_goals
    go_end0
    have s5 := (St.pick 3 s4).rowSet (i := 0) (by simp) (.slice a4 (ln + 1) c4)
    rw [Nat.add_zero] at s5
    have s5' : St W (w4.setCell ⟨b, o, none⟩ (.slice a4 (ln + 1) c4)) (row b o [.slice a4 (ln + 1) c4, .slice ca cn cc] :: OwnS 13 a4 (ln + 1) c4 (letC L ++ LetV.cells ⟨to, m⟩) :: row w1.heap.size 0 (LetV.cells ⟨to, m⟩) :: row T 0 m.cells :: OwnS 2 ca cn cc (chC C) :: sepL (L.map LetV.own) :: OwnS 1 m.pa m.pn m.pc (ivs m.ps) :: R) := s5
    have s6 := own_snoc (x := ⟨to, m⟩) (s5'.perm [5, 5])
    refine HK.out _ (NewsA.close (la := a4) (ln := ln + 1) (lc := c4) (ca := ca) (cn := cn) (cc := cc) ?_)
    rw [letC_snoc]
    exact ((s6.perm [3, 3]).dropN 2).perm [1, 1, 1]

end

end Go.Proofs.YtbpdchaeakihkaaGreat

/- The overlay: there, node, told, raise, lower. -/
namespace Go.Proofs.YtbpdchaeakihkaaGreat
open Go.RowKit Go.Qd

structure OV where
  V : VV
  L : List LetV
  C : List (Int × Bool)
  cfg : List Int
  D : List Int
  heard : List Int
  ticks : Int
  asked : Int
  since : Int

def OvA (b d : Nat) (O : OV) : HP := fun h => ∃ v : Nat, sepL [row b 0 [.pointer (some ⟨v, 0, none⟩)], NewsA b 1 O.L O.C, row b 3 (ivs O.cfg), row b 23 [.pointer (some ⟨d, 0, none⟩)], row b 24 (ivs O.heard), row b 36 [.int .i64 O.ticks, .int .i64 O.asked, .int .i64 O.since], ViewsA v O.V, DiceA d O.D] h

/-- A message that is but a kind. -/
def kindM (k : Int) : MsgV := ⟨k, 0, 0, false, none, 0, 0, [], 0, 0, 0, 0, ByteArray.empty, none, 0, 0, none, 0, 0⟩

def thereB (O : OV) (p : Int) : Bool := decide (0 ≤ p) && decide (p < O.cfg.getD 0 0)
def onodeB (O : OV) (p : Int) : Bool := thereB O p && decide (p ≠ O.V.self)

structure OOK (O : OV) : Prop where
  v : VOK O.V
  cl : O.cfg.length = 20
  hl : O.heard.length = 12
  r : rightB O.cfg = true

section
variable {W w : World} {R : List HP} {post : Ending → World → Prop} {b d : Nat} {O : OV} {p : Int}

theorem OvA.open (st : St W w (OvA b d O :: R)) : ∃ v, St W w (row b 0 [.pointer (some ⟨v, 0, none⟩)] :: NewsA b 1 O.L O.C :: row b 3 (ivs O.cfg) :: row b 23 [.pointer (some ⟨d, 0, none⟩)] :: row b 24 (ivs O.heard) :: row b 36 [.int .i64 O.ticks, .int .i64 O.asked, .int .i64 O.since] :: ViewsA v O.V :: DiceA d O.D :: R) := by
  obtain ⟨v, s⟩ := St.ex (F := fun (v : Nat) h => sepL [row b 0 [.pointer (some ⟨v, 0, none⟩)], NewsA b 1 O.L O.C, row b 3 (ivs O.cfg), row b 23 [.pointer (some ⟨d, 0, none⟩)], row b 24 (ivs O.heard), row b 36 [.int .i64 O.ticks, .int .i64 O.asked, .int .i64 O.since], ViewsA v O.V, DiceA d O.D] h) st
  exact ⟨v, (St.flat _).1 s⟩
theorem OvA.close {v : Nat} (st : St W w (row b 0 [.pointer (some ⟨v, 0, none⟩)] :: NewsA b 1 O.L O.C :: row b 3 (ivs O.cfg) :: row b 23 [.pointer (some ⟨d, 0, none⟩)] :: row b 24 (ivs O.heard) :: row b 36 [.int .i64 O.ticks, .int .i64 O.asked, .int .i64 O.since] :: ViewsA v O.V :: DiceA d O.D :: R)) : St W w (OvA b d O :: R) :=
  ((St.flat [row b 0 [.pointer (some ⟨v, 0, none⟩)], NewsA b 1 O.L O.C, row b 3 (ivs O.cfg), row b 23 [.pointer (some ⟨d, 0, none⟩)], row b 24 (ivs O.heard), row b 36 [.int .i64 O.ticks, .int .i64 O.asked, .int .i64 O.since], ViewsA v O.V, DiceA d O.D]).2 st).imp fun _ x => ⟨v, x⟩

theorem row1c {o : Nat} {v : Value} (s : St W w (row b o [v] :: R)) : w.cell? ⟨b, o, none⟩ = some v := s.rowCell (i := 0) rfl
theorem cfg_off {o i : Nat} {c : List Int} (s : St W w (row b o (ivs c) :: R)) (h : i < c.length) : w.cell? ⟨b, o + i, none⟩ = some (.int .i64 (c.getD i 0)) := by
  have := s.rowCell (ivs_get h)
  rw [this]; simp [h]

theorem there_c (st : St W w (OvA b d O :: R)) (hc : O.cfg.length = 20) (K : post (.returned (.bool (thereB O p))) w) : Calls Tryz.prog 83 #[.pointer (some ⟨b, 0, none⟩), .int .i64 p] w post := by
  have HK := hid K; clear K
  obtain ⟨v, s⟩ := OvA.open st
  have g := cfg_off (St.pick 2 s) (i := 0) (by rw [hc]; omega)
  rw [Nat.add_zero] at g
  unfold thereB at HK
  obtain ⟨n, hn⟩ : ∃ n, O.cfg.getD 0 0 = n := ⟨_, rfl⟩
  rw [hn] at g HK
  clear hn hc
  by_cases h1 : 0 ≤ p
  · by_cases h2 : p < n
    · rw [show (decide (0 ≤ p) && decide (p < n)) = true by simp [h1, h2]] at HK
      go_enter Tryz.func83, Tryz.ntmps83
      go_wp2
      exact HK.out
    · rw [show (decide (0 ≤ p) && decide (p < n)) = false by simp [h2]] at HK
      go_enter Tryz.func83, Tryz.ntmps83
      go_wp2
      exact HK.out
  · rw [show (decide (0 ≤ p) && decide (p < n)) = false by simp [h1]] at HK
    go_enter Tryz.func83, Tryz.ntmps83
    go_wp2
    exact HK.out

theorem oself_c {v : Nat} {V : VV} (st : St W w (ViewsA v V :: R)) (K : post (.returned (.int .i64 V.self)) w) : Calls Tryz.prog 84 #[.pointer (some ⟨v, 0, none⟩)] w post := by
  have HK := hid K; clear K
  have h0 := (ViewsA.open st).cell
  go_enter Tryz.func84, Tryz.ntmps84
  go_wp2
  exact HK.out

theorem onode_c (st : St W w (OvA b d O :: R)) (hc : O.cfg.length = 20) (K : post (.returned (.bool (onodeB O p))) w) : Calls Tryz.prog 42 #[.pointer (some ⟨b, 0, none⟩), .int .i64 p] w post := by
  have HK := hid K; clear K
  obtain ⟨v, s⟩ := OvA.open st
  have g := row1c s
  unfold onodeB at HK
  obtain ⟨t, ht⟩ : ∃ t, thereB O p = t := ⟨_, rfl⟩
  rw [ht] at HK
  have HT := hid ht
  clear ht
  cases t with
  | false =>
    go_enter Tryz.func42, Tryz.ntmps42
    go_wp2_with (go_at_call 83; refine there_c st hc ?_; rw [HT.out])
    exact HK.out
  | true =>
    by_cases h : p = O.V.self
    · have hb : (p != O.V.self) = false := by simp [h]
      rw [show (true && decide (p ≠ O.V.self)) = false by simp [h]] at HK
      clear h
      go_enter Tryz.func42, Tryz.ntmps42
      go_wp2_with (first
        | (go_at_call 83; refine there_c st hc ?_; rw [HT.out])
        | (go_at_call 84; refine oself_c (St.pick 6 s) ?_))
      exact HK.out
    · have hb : (p != O.V.self) = true := by simp [h]
      rw [show (true && decide (p ≠ O.V.self)) = true by simp [h]] at HK
      clear h
      go_enter Tryz.func42, Tryz.ntmps42
      go_wp2_with (first
        | (go_at_call 83; refine there_c st hc ?_; rw [HT.out])
        | (go_at_call 84; refine oself_c (St.pick 6 s) ?_))
      exact HK.out

theorem boxN {x y : Value} (s : St W w (row b 1 [x, y] :: R)) : w.cell? ⟨b, 1, none⟩ = some x ∧ w.cell? ⟨b, 2, none⟩ = some y ∧ w.frozen? ⟨b, 1, none⟩ = false ∧ w.frozen? ⟨b, 2, none⟩ = false :=
  ⟨s.rowCell (i := 0) rfl, s.rowCell (i := 1) rfl, s.rowFree (i := 0) (by simp), s.rowFree (i := 1) (by simp)⟩

/-- told: what came about is handed over, and forgotten. -/
theorem told_c (st : St W w (OvA b d O :: R))
    (K : ∀ la ln lc ca cn cc w', St W w' (OvA b d { O with L := [], C := [] } :: OwnS 13 la ln lc (letC O.L) :: OwnS 2 ca cn cc (chC O.C) :: sepL (O.L.map LetV.own) :: R) → post (.returned (.tuple #[.slice la ln lc, .slice ca cn cc])) w') :
    Calls Tryz.prog 45 #[.pointer (some ⟨b, 0, none⟩)] w post := by
  have HK := hid K; clear K
  obtain ⟨v, s⟩ := OvA.open st
  obtain ⟨la, ln, lc, ca, cn, cc, s1⟩ := NewsA.open (St.pick 1 s)
  obtain ⟨g0, g1, f0, f1⟩ := boxN s1
  have s2 := s1.alloc #[.slice la ln lc, .slice ca cn cc] 43
  obtain ⟨k0, k1, l0, l1⟩ := boxN (St.pick 1 s2)
  have s3 := (St.pick 1 s2).rowSet (i := 0) (by simp) (.slice none 0 0)
  have s4 := s3.rowSet (i := 1) (by simp) (.slice none 0 0)
  have s4' : St W (((w.alloc (.cells #[.slice la ln lc, .slice ca cn cc] 43)).setCell ⟨b, 1, none⟩ (.slice none 0 0)).setCell ⟨b, 2, none⟩ (.slice none 0 0)) (row b 1 [.slice none 0 0, .slice none 0 0] :: row w.heap.size 0 [.slice la ln lc, .slice ca cn cc] :: OwnS 13 la ln lc (letC O.L) :: OwnS 2 ca cn cc (chC O.C) :: sepL (O.L.map LetV.own) :: row b 0 [.pointer (some ⟨v, 0, none⟩)] :: row b 3 (ivs O.cfg) :: row b 23 [.pointer (some ⟨d, 0, none⟩)] :: row b 24 (ivs O.heard) :: row b 36 [.int .i64 O.ticks, .int .i64 O.asked, .int .i64 O.since] :: ViewsA v O.V :: DiceA d O.D :: R) := s4
  clear s4 s3
  go_enter Tryz.func45, Tryz.ntmps45
  go_wp2_with fail
  generalize ((w.alloc (.cells #[.slice la ln lc, .slice ca cn cc] 43)).setCell ⟨b, 1, none⟩ (.slice none 0 0)).setCell ⟨b, 2, none⟩ (.slice none 0 0) = w4 at s4' ⊢
  generalize w.heap.size = B at s4' ⊢
  obtain ⟨m0, m1⟩ := boxP (St.pick 1 s4')
  go_quiet (fail)
  have s5 := s4'.drewN nq
  generalize w4.drewN nq = w5 at s5 ⊢
  go_wp2
  have t1 := OwnS.none0 (sz := 13) (OwnS.none0 (sz := 2) s5.empD)
  have t2 : St W w5 (NewsA b 1 [] [] :: _) := NewsA.close (L := []) (C := []) (t1.perm [3, 0, 0, 0])
  have t3 := OvA.close (O := { O with L := [], C := [] }) (t2.perm [5, 0, 4, 4, 4, 4, 4, 4])
  exact HK.out _ _ _ _ _ _ _ (St.pick 1 t3).drop

theorem lenL {la ln lc} (s : St W w (OwnS 13 la ln lc (letC O.L) :: R)) : O.L.length = ln := by have := (OwnS.rd s).len; rw [letC_size] at this; omega

def raiseO (O : OV) (p : Int) : OV :=
  if raiseOk O.V p then
    { O with V := raiseV O.V O.D p, D := raiseD O.V O.D p, L := if 0 ≤ raiseG O.V O.D then O.L ++ [⟨raiseG O.V O.D, kindM 6⟩] else O.L,
             C := (if 0 ≤ raiseG O.V O.D then O.C ++ [(raiseG O.V O.D, false)] else O.C) ++ [(p, true)], heard := O.heard.set p.toNat 0 }
  else O

def lowerO (O : OV) (p : Int) : OV := if memB O.V.a p then { O with V := lowerV O.V O.D p, D := lowerD O.V O.D p, C := O.C ++ [(p, false)] } else O

set_option maxRecDepth 100000 in
set_option maxHeartbeats 2000000 in
theorem olower_c (st : St W w (OvA b d O :: R)) (h : OOK O) (hC : O.C.length ≤ 4000) (K : ∀ w', St W w' (OvA b d (lowerO O p) :: R) → post (.returned (.tuple #[])) w') :
    Calls Tryz.prog 48 #[.pointer (some ⟨b, 0, none⟩), .int .i64 p] w post := by
  have HK := hid K; clear K
  obtain ⟨v, s⟩ := OvA.open st
  have HV := hid h.v
  have s1 := s.drew
  have g0 := row1c s1
  have g1 := row1c (St.pick 3 s1)
  unfold lowerO at HK
  obtain ⟨z, hz⟩ : ∃ z, memB O.V.a p = z := ⟨_, rfl⟩
  rw [hz] at HK
  have HZ := hid hz
  clear hz h
  cases z with
  | true =>
    simp only [if_true] at HK
    go_enter Tryz.func48, Tryz.ntmps48
    go_wp2_with fail
    go_region_law (go_simp; go_at_call 89; refine lower_c (s1.perm [6, 6]) HV.out ?_; rintro w2 s2; rw [HZ.out])
    all_goals
      have g2 := row1c (St.pick 2 s2)
      go_wp2_with (go_at_call 86; refine turn_c (St.pick 3 s2) (by omega) ?_; rintro w3 s3)
      go_end0
      exact HK.out _ (OvA.close (O := { O with V := lowerV O.V O.D p, D := lowerD O.V O.D p, C := O.C ++ [(p, false)] }) (s3.perm [3, 0, 2, 2, 2, 2, 0, 0]))
  | false =>
    have e1 : lowerV O.V O.D p = O.V := by unfold lowerV; rw [if_neg (by rw [HZ.out]; decide)]
    have e2 : lowerD O.V O.D p = O.D := by unfold lowerD; rw [if_neg (by rw [HZ.out]; decide)]
    simp only [Bool.false_eq_true, if_false] at HK
    have HE := hid (And.intro e1 e2)
    clear e1 e2
    go_enter Tryz.func48, Tryz.ntmps48
    go_wp2_with fail
    go_region_law (go_simp; go_at_call 89; refine lower_c (s1.perm [6, 6]) HV.out ?_; rintro w2 s2; rw [HZ.out]; rw [HE.out.1, HE.out.2] at s2)
    all_goals
      go_wp2_with fail
      go_end0
      exact HK.out _ (OvA.close (O := O) (s2.perm [2, 2, 2, 2, 2, 2, 0, 0]))

end

end Go.Proofs.YtbpdchaeakihkaaGreat

/- The overlay: raise, Heard, Join. -/
namespace Go.Proofs.YtbpdchaeakihkaaGreat
open Go.RowKit Go.Qd

section
variable {W w : World} {R : List HP} {post : Ending → World → Prop} {b d : Nat} {O : OV} {p : Int}

theorem OOK.raise (h : OOK O) (p : Int) : OOK (raiseO O p) := by
  unfold raiseO
  by_cases hr : raiseOk O.V p = true
  · rw [if_pos hr]; exact ⟨h.v.raise O.D p, h.cl, by show (O.heard.set p.toNat 0).length = 12; rw [List.length_set]; exact h.hl, h.r⟩
  · rw [if_neg hr]; exact h
theorem OOK.lower (h : OOK O) (p : Int) : OOK (lowerO O p) := by
  unfold lowerO
  by_cases hr : memB O.V.a p = true
  · rw [if_pos hr]; exact ⟨h.v.lower O.D p, h.cl, h.hl, h.r⟩
  · rw [if_neg hr]; exact h

theorem raiseOk_nat {V : VV} (h : raiseOk V p = true) : ∃ j : Nat, p = j ∧ j < 12 := by
  unfold raiseOk at h
  simp only [Bool.and_eq_true] at h
  obtain ⟨q0, q1⟩ := nodeB_iff.1 h.1.1
  exact ⟨p.toNat, by omega, by omega⟩

set_option maxRecDepth 100000 in
set_option maxHeartbeats 4000000 in
theorem oraise_c (st : St W w (OvA b d O :: R)) (h : OOK O) (hL : O.L.length ≤ 4000) (hC : O.C.length ≤ 4000) (K : ∀ w', St W w' (OvA b d (raiseO O p) :: R) → post (.returned (.tuple #[])) w') :
    Calls Tryz.prog 43 #[.pointer (some ⟨b, 0, none⟩), .int .i64 p] w post := by
  have HK := hid K; clear K
  obtain ⟨v, s⟩ := OvA.open st
  have HV := hid h.v
  have HH := hid h.hl
  have s1 := s.drew
  have g0 := row1c s1
  have g1 := row1c (St.pick 3 s1)
  unfold raiseO at HK
  obtain ⟨z, hz⟩ : ∃ z, raiseOk O.V p = z := ⟨_, rfl⟩
  rw [hz] at HK
  have HZ := hid hz
  clear h
  cases z with
  | false =>
    simp only [Bool.false_eq_true, if_false] at HK
    clear hz
    go_enter Tryz.func43, Tryz.ntmps43
    go_wp2_with fail
    go_region_law (go_simp; go_at_call 85; refine raise_no (s1.perm [6, 6]) HZ.out ?_)
    all_goals
      go_wp2_with fail
      go_end0
      exact HK.out _ (OvA.close (O := O) s1)
  | true =>
    simp only [if_true] at HK
    obtain ⟨j, rfl, hj⟩ := raiseOk_nat hz
    have hj2 : (j : Int) < 12 := by omega
    obtain ⟨g, hg⟩ : ∃ g, raiseG O.V O.D = g := ⟨_, rfl⟩
    rw [hg] at HK
    have HG := hid hg
    clear hz hg
    by_cases h0 : 0 ≤ g
    · simp only [h0, if_true] at HK
      go_enter Tryz.func43, Tryz.ntmps43
      go_wp2_with fail
      go_region_law (go_simp; go_at_call 85; refine raise_yes (s1.perm [6, 6]) HV.out HZ.out ?_; rintro w2 s2; rw [HG.out]; have g2 := row1c (St.pick 2 s2))
      all_goals
        go_wp2_with (first
          | (go_at_call 44; refine send_c (m := kindM 6) ((OwnS.none0 (sz := 1) s2).perm [4, 0]) (by omega) ?_; rintro w3 s3)
          | (go_at_call 86; first
              | (refine turn_c s4 (by simp; omega) ?_; rintro w5 s5
                 have hc5 := cfg_off (St.pick 6 s5) (i := j) (by rw [HH.out]; exact hj)
                 have hf5 := (St.pick 6 s5).rowFree (i := j) (by rw [ivs_length, HH.out]; exact hj))
              | (refine turn_c s3 (by omega) ?_; rintro w4 s4)))
        go_end0
        have s6 := (St.pick 6 s5).rowSet (i := j) (by rw [ivs_length, HH.out]; exact hj) (.int .i64 0)
        rw [show (ivs O.heard).set j (.int .i64 0) = ivs (O.heard.set j 0) from by simp [ivs, List.map_set]] at s6
        exact HK.out _ (OvA.close (O := { O with V := raiseV O.V O.D j, D := raiseD O.V O.D j, L := O.L ++ [⟨g, kindM 6⟩], C := O.C ++ [(g, false)] ++ [((j : Int), true)], heard := O.heard.set j 0 }) (s6.perm [4, 1, 3, 3, 0, 2, 0, 0]))
    · simp only [h0, if_false] at HK
      go_enter Tryz.func43, Tryz.ntmps43
      go_wp2_with fail
      go_region_law (go_simp; go_at_call 85; refine raise_yes (s1.perm [6, 6]) HV.out HZ.out ?_; rintro w2 s2; rw [HG.out]; have g2 := row1c (St.pick 2 s2))
      all_goals
        go_wp2_with (go_at_call 86; refine turn_c (St.pick 3 s2) (by omega) ?_; rintro w5 s5
                     have hc5 := cfg_off (St.pick 6 s5) (i := j) (by rw [HH.out]; exact hj)
                     have hf5 := (St.pick 6 s5).rowFree (i := j) (by rw [ivs_length, HH.out]; exact hj))
        go_end0
        have s6 := (St.pick 6 s5).rowSet (i := j) (by rw [ivs_length, HH.out]; exact hj) (.int .i64 0)
        rw [show (ivs O.heard).set j (.int .i64 0) = ivs (O.heard.set j 0) from by simp [ivs, List.map_set]] at s6
        exact HK.out _ (OvA.close (O := { O with V := raiseV O.V O.D j, D := raiseD O.V O.D j, C := O.C ++ [((j : Int), true)], heard := O.heard.set j 0 }) (s6.perm [4, 1, 3, 3, 0, 2, 0, 0]))

end

end Go.Proofs.YtbpdchaeakihkaaGreat

/- The overlay: Heard, Join, wanted. -/
namespace Go.Proofs.YtbpdchaeakihkaaGreat
open Go.RowKit Go.Qd

def learnO (O : OV) (p : Int) : OV := { O with V := learnV O.V O.D p, D := learnD O.V O.D p }
def heardO (O : OV) (p : Int) : OV := learnO (if memB O.V.a p then { O with heard := O.heard.set p.toNat 0 } else O) p
/-- What came about is told. -/
def freshO (O : OV) : OV := { O with L := [], C := [] }
def wantedL (O : OV) : List Int := if O.V.am ≤ (O.V.a.length : Int) then [] else O.V.p

theorem OOK.learn {O : OV} (h : OOK O) (p : Int) : OOK (learnO O p) := ⟨h.v.learn O.D p, h.cl, h.hl, h.r⟩
theorem OOK.heard {O : OV} (h : OOK O) (p : Int) : OOK (heardO O p) := by
  unfold heardO
  split
  · exact OOK.learn (O := { O with heard := O.heard.set p.toNat 0 }) ⟨h.v, h.cl, by show (O.heard.set p.toNat 0).length = 12; rw [List.length_set]; exact h.hl, h.r⟩ p
  · exact h.learn p
theorem OOK.fresh {O : OV} (h : OOK O) : OOK (freshO O) := ⟨h.v, h.cl, h.hl, h.r⟩
theorem OOK.nodes {O : OV} (h : OOK O) : 2 ≤ O.cfg.getD 0 0 ∧ O.cfg.getD 0 0 ≤ 12 := by
  have f := rightB_iff.1 h.r 0 (by decide)
  have h1 := fine_lo f
  have h2 := fine_hi f
  exact ⟨by simpa [leastF] using h1, by simpa [mostF] using h2⟩
theorem onode_nat {O : OV} {p : Int} (h : OOK O) (hn : onodeB O p = true) : ∃ j : Nat, p = j ∧ j < 12 := by
  unfold onodeB thereB at hn
  simp only [Bool.and_eq_true, decide_eq_true_eq] at hn
  have := h.nodes
  exact ⟨p.toNat, by omega, by omega⟩

theorem raiseO_len (O : OV) (p : Int) : (raiseO O p).L.length ≤ O.L.length + 1 := by
  unfold raiseO
  by_cases h : raiseOk O.V p = true
  · rw [if_pos h]
    show (if 0 ≤ raiseG O.V O.D then O.L ++ [(⟨raiseG O.V O.D, kindM 6⟩ : LetV)] else O.L).length ≤ _
    by_cases g : 0 ≤ raiseG O.V O.D
    · rw [if_pos g, List.length_append]; exact Nat.le_refl _
    · rw [if_neg g]; omega
  · rw [if_neg h]; omega
theorem raiseO_lenC (O : OV) (p : Int) : (raiseO O p).C.length ≤ O.C.length + 2 := by
  unfold raiseO
  by_cases h : raiseOk O.V p = true
  · rw [if_pos h]
    show ((if 0 ≤ raiseG O.V O.D then O.C ++ [(raiseG O.V O.D, false)] else O.C) ++ [(p, true)]).length ≤ _
    by_cases g : 0 ≤ raiseG O.V O.D
    · rw [if_pos g, List.length_append, List.length_append]; exact Nat.le_refl _
    · rw [if_neg g, List.length_append]; simp
  · rw [if_neg h]; omega

section
variable {W w : World} {R : List HP} {post : Ending → World → Prop} {b d : Nat} {O : OV} {p : Int}

theorem learn_c {v : Nat} {V : VV} {D : List Int} (st : St W w (ViewsA v V :: DiceA d D :: R)) (hV : VOK V)
    (K : ∀ w', St W w' (ViewsA v (learnV V D p) :: DiceA d (learnD V D p) :: R) → post (.returned (.bool (learnOk V p))) w') :
    Calls Tryz.prog 47 #[.pointer (some ⟨v, 0, none⟩), .int .i64 p, .pointer (some ⟨d, 0, none⟩)] w post := by
  by_cases h : learnOk V p = true
  · rw [h] at K
    exact learn_yes st hV h K
  · have h' : learnOk V p = false := by simpa using h
    have e1 : learnV V D p = V := by unfold learnV; rw [if_neg h]
    have e2 : learnD V D p = D := by unfold learnD; rw [if_neg h]
    rw [h', e1, e2] at K
    exact learn_no st h' (K w st)

set_option maxRecDepth 100000 in
theorem heard_no (st : St W w (OvA b d O :: R)) (h : OOK O) (hn : onodeB O p = false) (K : post (.returned (.int .i64 1)) w) : Calls Tryz.prog 17 #[.pointer (some ⟨b, 0, none⟩), .int .i64 p] w post := by
  have HK := hid K; clear K
  have HN := hid hn
  have hcl := h.cl
  clear hn h
  go_enter Tryz.func17, Tryz.ntmps17
  go_wp2_with (go_at_call 42; refine onode_c st hcl ?_; rw [HN.out])
  exact HK.out

set_option maxRecDepth 100000 in
set_option maxHeartbeats 2000000 in
theorem heard_c (st : St W w (OvA b d O :: R)) (h : OOK O) (hn : onodeB O p = true) (K : ∀ w', St W w' (OvA b d (heardO O p) :: R) → post (.returned (.int .i64 0)) w') : Calls Tryz.prog 17 #[.pointer (some ⟨b, 0, none⟩), .int .i64 p] w post := by
  have HK := hid K; clear K
  obtain ⟨j, rfl, hj⟩ := onode_nat h hn
  have hj2 : (j : Int) < 12 := by omega
  have HN := hid hn
  have hcl := h.cl
  have HV := hid h.v
  have HH := hid h.hl
  obtain ⟨v, s⟩ := OvA.open st
  have g0 := row1c s
  clear hn h
  unfold heardO at HK
  obtain ⟨z, hz⟩ : ∃ z, memB O.V.a (j : Int) = z := ⟨_, rfl⟩
  rw [hz] at HK
  have HZ := hid hz
  clear hz
  cases z with
  | true =>
    simp only [if_true] at HK
    have hc5 := cfg_off (St.pick 4 s) (i := j) (by rw [HH.out]; exact hj)
    have hf5 := (St.pick 4 s).rowFree (i := j) (by rw [ivs_length, HH.out]; exact hj)
    have s1 := (St.pick 4 s).rowSet (i := j) (by rw [ivs_length, HH.out]; exact hj) (.int .i64 0)
    rw [show (ivs O.heard).set j (.int .i64 0) = ivs (O.heard.set j 0) from by simp [ivs, List.map_set]] at s1
    have s2 := s1.drew
    have k0 := row1c (St.pick 1 s2)
    have k1 := row1c (St.pick 4 s2)
    go_enter Tryz.func17, Tryz.ntmps17
    go_wp2_with (first
      | (go_at_call 42; refine onode_c st hcl ?_; rw [HN.out])
      | (go_at_call 46; refine isActive_c (St.pick 6 s) ?_; rw [HZ.out]))
    go_region_law (go_simp; go_at_call 47; refine learn_c (s2.perm [6, 6]) HV.out ?_; rintro w3 s3)
    all_goals
      go_wp2_with fail
      exact HK.out _ (OvA.close (O := learnO { O with heard := O.heard.set j 0 } j) (s3.perm [3, 3, 3, 3, 2, 2, 0, 0]))
  | false =>
    simp only [Bool.false_eq_true, if_false] at HK
    have s2 := s.drew
    have k0 := row1c s2
    have k1 := row1c (St.pick 3 s2)
    go_enter Tryz.func17, Tryz.ntmps17
    go_wp2_with (first
      | (go_at_call 42; refine onode_c st hcl ?_; rw [HN.out])
      | (go_at_call 46; refine isActive_c (St.pick 6 s) ?_; rw [HZ.out]))
    go_region_law (go_simp; go_at_call 47; refine learn_c (s2.perm [6, 6]) HV.out ?_; rintro w3 s3)
    all_goals
      go_wp2_with fail
      exact HK.out _ (OvA.close (O := learnO O j) (s3.perm [2, 2, 2, 2, 2, 2, 0, 0]))

set_option maxRecDepth 100000 in
theorem join_no (st : St W w (OvA b d O :: R)) (h : OOK O) (hn : onodeB O p = false) (K : post (.returned (.tuple #[.slice none 0 0, .slice none 0 0, .int .i64 1])) w) : Calls Tryz.prog 15 #[.pointer (some ⟨b, 0, none⟩), .int .i64 p] w post := by
  have HK := hid K; clear K
  have HN := hid hn
  have hcl := h.cl
  clear hn h
  go_enter Tryz.func15, Tryz.ntmps15
  go_wp2_with (go_at_call 42; refine onode_c st hcl ?_; rw [HN.out])
  go_ret3
  exact HK.out

def joinL (O : OV) (p : Int) : List LetV := (raiseO O p).L ++ [⟨p, kindM 1⟩]

set_option maxRecDepth 100000 in
set_option maxHeartbeats 2000000 in
theorem join_c (st : St W w (OvA b d O :: R)) (h : OOK O) (hn : onodeB O p = true) (hL : O.L.length ≤ 100) (hC : O.C.length ≤ 100)
    (K : ∀ la ln lc ca cn cc w', St W w' (OvA b d (freshO (raiseO O p)) :: OwnS 13 la ln lc (letC (joinL O p)) :: OwnS 2 ca cn cc (chC (raiseO O p).C) :: sepL ((joinL O p).map LetV.own) :: R) →
      post (.returned (.tuple #[.slice la ln lc, .slice ca cn cc, .int .i64 0])) w') : Calls Tryz.prog 15 #[.pointer (some ⟨b, 0, none⟩), .int .i64 p] w post := by
  have HK := hid K; clear K
  have HN := hid hn
  have hcl := h.cl
  have HO := hid h
  have hl2 : (raiseO O p).L.length ≤ 4000 := by have := raiseO_len O p; omega
  have HL := hid hl2
  clear hn h hl2
  go_enter Tryz.func15, Tryz.ntmps15
  go_wp2_with (first
    | (go_at_call 42; refine onode_c st hcl ?_; rw [HN.out])
    | (go_at_call 43; refine oraise_c st HO.out (by omega) (by omega) ?_; rintro w1 s1; obtain ⟨v, s2⟩ := OvA.open s1)
    | (go_at_call 44; refine send_c (m := kindM 1) ((OwnS.none0 (sz := 1) s2).perm [2, 0]) (by have := HL.out; omega) ?_; rintro w3 s3; have s4 := OvA.close (O := { raiseO O p with L := joinL O p }) (s3.perm [1]))
    | (go_at_call 45; refine told_c s4 ?_; rintro la ln lc ca cn cc w5 s5))
  go_ret3
  exact HK.out _ _ _ _ _ _ _ s5

set_option maxRecDepth 100000 in
theorem wanted_c (st : St W w (OvA b d O :: R)) (h : OOK O) (K : ∀ ao n c w', St W w' (OwnS 1 ao n c (ivs (wantedL O)) :: OvA b d O :: R) → post (.returned (.slice ao n c)) w') : Calls Tryz.prog 91 #[.pointer (some ⟨b, 0, none⟩)] w post := by
  have HK := hid K; clear K
  have hp4 := hid (show O.V.p.length ≤ 4096 from Nat.le_trans h.v.np4 (by decide))
  obtain ⟨v, s⟩ := OvA.open st
  have g0 := row1c s
  unfold wantedL at HK
  obtain ⟨z, hz⟩ : ∃ z, decide (O.V.am ≤ (O.V.a.length : Int)) = z := ⟨_, rfl⟩
  have HZ := hid hz
  clear h
  cases z with
  | true =>
    rw [if_pos (of_decide_eq_true hz)] at HK
    clear hz
    go_enter Tryz.func91, Tryz.ntmps91
    go_wp2_with (go_at_call 100; refine vfull_c (St.pick 6 s) ?_; rintro w1 s1; rw [HZ.out])
    exact HK.out none 0 0 _ (OwnS.none0 (OvA.close (O := O) (s1.perm [1, 1, 1, 1, 1, 1, 0])))
  | false =>
    rw [if_neg (of_decide_eq_false hz)] at HK
    clear hz
    go_enter Tryz.func91, Tryz.ntmps91
    go_wp2_with (first
      | (go_at_call 100; refine vfull_c (St.pick 6 s) ?_; rintro w1 s1; rw [HZ.out]; have g1 := row1c (St.pick 1 s1))
      | (go_at_call 21; refine passive_c s1 hp4.out ?_; rintro ao c w2 s2))
    exact HK.out _ _ _ _ (St.pick 1 (OvA.close (O := O) (s2.perm [2, 2, 2, 2, 2, 2, 1, 1])))

end

end Go.Proofs.YtbpdchaeakihkaaGreat
