/- The replica in memory; room, wrote. -/
import Derived.Test.YtojfjbbggpfijaaGreatDoorIdxs
import Derived.Test.YtojfjbbggpfijaaGreatDoorTabsB
import Derived.Test.YtojfjbbggpfijaaGreatDoorSumA
import Derived.Test.YtojfjbbggpfijaaGreatDoorDsks
namespace Go.Proofs.YtojfjbbggpfijaaGreatDoor
open Go.RowKit Go.Qd

/-- Where a replica's parts lie. -/
structure RAd where
  p : Nat
  clk : Nat
  tb : Nat
  ow : Nat
  ix : Nat
  gr : Nat
  gp : Nat
  jb : Nat
  d : Nat
def ptrV (b : Nat) : Value := .pointer (some ⟨b, 0, none⟩)
def repC (A : RAd) (r : RepV) : List Value := [.int .i64 r.nodes, .int .i64 r.quota, .int .i64 r.retain, .int .i64 r.t1, .int .i64 r.t2, ptrV A.clk, .int .u64 r.sum, ptrV A.tb, ptrV A.ow, ptrV A.ix, ptrV A.gr, ptrV A.jb]
def graC (A : RAd) (r : RepV) : List Value := [ptrV A.gp, .int .i64 r.site, .int .i64 r.t2]
/-- A replica in memory, its disk with it. -/
def RepA (A : RAd) (r : RepV) : HP := sepL [row A.p 0 (repC A r), row A.clk 0 [.int .i64 r.cnt, .int .i64 r.site], TabE A.tb 0 r.room r.tab, TabB A.ow 0 4096 r.own, IdxH A.ix r.ix, row A.gr 0 (graC A r), TabE A.gp 0 4096 r.gr, JrnH A.jb A.d, DskH A.d r.d]

structure RepOK (r : RepV) : Prop where
  tab : TSrt r.tab
  key : ∀ p ∈ r.tab, p.1 = p.2.key
  len : (r.tab.length : Int) ≤ r.room
  room : r.room ≤ 4000
  own : BSrt r.own
  ownT : ∀ p ∈ r.own, p.2 = true
  ownL : r.own.length ≤ 4096
  ix : IxOK r.ix
  ixN : r.ix.length = r.tab.length
  ixT : ∀ k, (ixGet r.ix k).isSome = thas r.tab k
  gr : TSrt r.gr
  grK : ∀ p ∈ r.gr, p.1 = p.2.key
  grL : r.gr.length ≤ 4096
  sum : r.sum < 18446744073709551616
  site : 0 ≤ r.site ∧ r.site < 12
  cnt : 0 ≤ r.cnt
  d : DskOK r.d
  t1 : 0 ≤ r.t1 ∧ r.t1 ≤ 2147483647

theorem RepOK.ixL {r : RepV} (h : RepOK r) : r.ix.length ≤ 4000 := by have := h.ixN; have := h.len; have := h.room; omega

section
variable {W w : World} {R : List HP} {post : Ending → World → Prop} {A : RAd} {r : RepV}

theorem RepA.open : St W w (RepA A r :: R) ↔ St W w (row A.p 0 (repC A r) :: row A.clk 0 [.int .i64 r.cnt, .int .i64 r.site] :: TabE A.tb 0 r.room r.tab :: TabB A.ow 0 4096 r.own :: IdxH A.ix r.ix :: row A.gr 0 (graC A r) :: TabE A.gp 0 4096 r.gr :: JrnH A.jb A.d :: DskH A.d r.d :: R) :=
  St.flat [row A.p 0 (repC A r), row A.clk 0 [.int .i64 r.cnt, .int .i64 r.site], TabE A.tb 0 r.room r.tab, TabB A.ow 0 4096 r.own, IdxH A.ix r.ix, row A.gr 0 (graC A r), TabE A.gp 0 4096 r.gr, JrnH A.jb A.d, DskH A.d r.d]

/-- The cells of the replica's own struct. -/
theorem repRow (s : St W w (row A.p 0 (repC A r) :: R)) : ∀ i v, (repC A r)[i]? = some v → w.cell? ⟨A.p, i, none⟩ = some v := fun i v hv => by have := s.rowCell hv; rwa [Nat.zero_add] at this

theorem repPtr (s : St W w (row A.p 0 (repC A r) :: R)) : w.cell? ⟨A.p, 5, none⟩ = some (.pointer (some ⟨A.clk, 0, none⟩)) ∧ w.cell? ⟨A.p, 7, none⟩ = some (.pointer (some ⟨A.tb, 0, none⟩)) ∧ w.cell? ⟨A.p, 8, none⟩ = some (.pointer (some ⟨A.ow, 0, none⟩)) ∧
    w.cell? ⟨A.p, 9, none⟩ = some (.pointer (some ⟨A.ix, 0, none⟩)) ∧ w.cell? ⟨A.p, 10, none⟩ = some (.pointer (some ⟨A.gr, 0, none⟩)) ∧ w.cell? ⟨A.p, 11, none⟩ = some (.pointer (some ⟨A.jb, 0, none⟩)) := by
  have f := repRow s
  exact ⟨f 5 _ rfl, f 7 _ rfl, f 8 _ rfl, f 9 _ rfl, f 10 _ rfl, f 11 _ rfl⟩
end

section
attribute [local go_sem ↓] execOp_ldAny
variable {W w : World} {R : List HP} {post : Ending → World → Prop} {A : RAd} {r : RepV}
/-- The replica's pointers, as loads. -/
theorem repLd (s : St W w (RepA A r :: R)) : (loadG 102 (.pointer (some ⟨A.p, 5, none⟩))).run Tryz.prog w = .ok (.pointer (some ⟨A.clk, 0, none⟩)) w ∧ (loadG 110 (.pointer (some ⟨A.p, 7, none⟩))).run Tryz.prog w = .ok (.pointer (some ⟨A.tb, 0, none⟩)) w ∧
    (loadG 111 (.pointer (some ⟨A.p, 8, none⟩))).run Tryz.prog w = .ok (.pointer (some ⟨A.ow, 0, none⟩)) w ∧ (loadG 112 (.pointer (some ⟨A.p, 9, none⟩))).run Tryz.prog w = .ok (.pointer (some ⟨A.ix, 0, none⟩)) w ∧
    (loadG 113 (.pointer (some ⟨A.p, 10, none⟩))).run Tryz.prog w = .ok (.pointer (some ⟨A.gr, 0, none⟩)) w ∧ (loadG 114 (.pointer (some ⟨A.p, 11, none⟩))).run Tryz.prog w = .ok (.pointer (some ⟨A.jb, 0, none⟩)) w := by
  obtain ⟨c5, c7, c8, c9, c10, c11⟩ := repPtr (RepA.open.1 s)
  exact ⟨run_ldP (by kernel_rfl) c5, run_ldP (by kernel_rfl) c7, run_ldP (by kernel_rfl) c8, run_ldP (by kernel_rfl) c9, run_ldP (by kernel_rfl) c10, run_ldP (by kernel_rfl) c11⟩

theorem execOp_stE (ρ : Operand → Value) (dst : Option Tmp) (a x : Operand) (ty : TypeId) (pos : String) (after : Array Edge) (guard : Option (Nat × Bool)) :
    execOp ρ { dst, op := .store 67 a x, type := ty, pos, after, guard } = (do storeG 67 (ρ a) (ρ x); pure .skip) := rfl

set_option maxRecDepth 100000 in
set_option maxHeartbeats 2000000 in
/-- May a key have a place in the table? -/
theorem room_c {k : ByteArray} (h : RepOK r) (st : St W w (RepA A r :: R)) (K : ∀ w', St W w' (RepA A r :: R) → post (.returned (.bool (r.roomB k))) w') :
    Calls Tryz.prog 96 #[.pointer (some ⟨A.p, 0, none⟩), .string k] w post := by
  have HK := hid K; clear K
  have HH := hid h
  have hl : r.tab.length ≤ 4096 := by have := h.len; have := h.room; omega
  have HL := hid hl
  have hrm : Hid (∀ b, thas r.tab k = b → r.roomB k = (b || decide ((r.tab.length : Int) < r.room))) := hid (fun b hb => by unfold RepV.roomB; rw [hb])
  obtain ⟨c5, c7, c8, c9, c10, c11⟩ := repLd st
  obtain ⟨b, hb⟩ : ∃ b, thas r.tab k = b := ⟨_, rfl⟩
  obtain ⟨e, he⟩ : ∃ e, tget r.tab k = e := ⟨_, rfl⟩
  have HB := hid hb; have HE := hid he
  have hK2 := HK.out
  rw [hrm.out b hb] at hK2
  have HK2 := hid hK2
  clear hK2 h hb he hl HK
  go_enter Tryz.func96, Tryz.ntmps96
  go_wp2_with (first
    | (go_at_call 44; refine getE_c HH.out.tab HL.out (St.pick 2 (RepA.open.1 st)) ?_; rintro w1 s1; rw [HB.out, HE.out]; have s2 : St W w1 (RepA A r :: R) := RepA.open.2 (s1.perm [1, 1]))
    | (refine wpl_allocA rfl rfl zero_en s2 ?_; rintro U w3 s3)
    | (refine wpl_storeA (vs := e.cells) rfl (.tmp 5) (.tmp 14) (by rfl) agg_en (by rfl) (by rfl) rfl (env_one _) s3 rfl ?_; rintro w4 s4))
  have s5 : St W w4 (RepA A r :: row U 0 e.cells :: R) := St.pick 1 s4
  try simp only [Act.put, List.setIfInBounds_toArray, List.set_cons_succ, List.set_cons_zero]
  have hN : Nonempty (Cls fun w' => St W w' (RepA A r :: row U 0 e.cells :: R)) := Cls.inh s5
  have f7 := fun s : Cls (fun w' => St W w' (RepA A r :: row U 0 e.cells :: R)) => (repLd s.h).2.1
  refine wp_region_class (fun w' => St W w' (RepA A r :: row U 0 e.cells :: R)) (by kernel_rfl) (by kernel_rfl) s5.drew ?_
  cases b with
  | true =>
    repeat (go_big_quiet_step (fail))
    refine wpQuiet_nil ?_
    rintro ⟨w6, s6⟩
    dsimp only
    go_wp2_with fail
    exact HK2.out _ ((St.pick 1 s6).drop)
  | false =>
    repeat (go_big_quiet_step ((rename_i s; first
      | (go_at_call 148; refine lenE_c HL.out (St.pick 2 (RepA.open.1 s.h)) ?_; exact Cls.end _ s.h)
      | (go_at_call 149; refine roomE_c (St.pick 2 (RepA.open.1 s.h)) ?_; exact Cls.end _ s.h))))
    refine wpQuiet_nil ?_
    rintro ⟨w6, s6⟩
    dsimp only
    go_wp2_with fail
    exact HK2.out _ ((St.pick 1 s6).drop)
end
end Go.Proofs.YtojfjbbggpfijaaGreatDoor
