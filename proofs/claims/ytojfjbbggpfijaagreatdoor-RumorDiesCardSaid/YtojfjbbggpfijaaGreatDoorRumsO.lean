/- RumsO: several texts, joined. A mill: its cells; New, node, what it tells. -/
import Derived.Test.YtojfjbbggpfijaaGreatDoorNews
import Derived.Test.YtojfjbbggpfijaaGreatDoorCfgs
import Derived.Test.YtojfjbbggpfijaaGreatDoorClks
import Derived.Test.YtojfjbbggpfijaaGreatDoorLib
import Derived.Deep.RegionLaw
import Derived.Deep.DeepCutAuto
import Derived.Test.YtojfjbbggpfijaaGreatDoorWires
import Derived.Test.YtojfjbbggpfijaaGreatDoorTabX
import Derived.BigQuiet
namespace Go.Proofs.YtojfjbbggpfijaaGreatDoor
open Go.RowKit Go.Qd RepV

/-- A rumor. -/
structure TkV where
  m : MkV
  n : Int
def TkV.cells (x : TkV) : List Value := [.int .i64 x.m.c, .int .i64 x.m.s, .string x.m.key, .int .i64 x.n]
def tkC (l : List TkV) : List Value := (l.map TkV.cells).flatten
theorem tk_one (x : TkV) : ∀ u ∈ x.cells, u.oneCell' = true := by
  intro u hu; simp only [TkV.cells, List.mem_cons, List.not_mem_nil, or_false] at hu
  rcases hu with rfl | rfl | rfl | rfl <;> rfl
theorem tkC_one (x : TkV) : tkC [x] = x.cells := by simp [tkC]
theorem agg_tk : AggT Tryz.prog 139 4 := ⟨⟨_, Tryz.underlying139, rfl⟩, by kernel_rfl⟩
/-- A mill's cells. -/
def millC (rp : Nat) (c : List Int) (dp : Nat) (a : Option Addr) (n cp : Nat) : List Value := ptrV rp :: (ivs c ++ [ptrV dp, .slice a n cp])
theorem mill_len {rp dp n cp : Nat} {c : List Int} {a : Option Addr} (hc : c.length = 20) : (millC rp c dp a n cp).length = 23 := by simp [millC, ivs_len20 hc]
theorem mill_at {b rp dp n cp : Nat} {c : List Int} {a : Option Addr} {W w : World} {R : List HP} (hc : c.length = 20) (s : St W w (row b 0 (millC rp c dp a n cp) :: R)) :
    w.cell? ⟨b, 0, none⟩ = some (.pointer (some ⟨rp, 0, none⟩)) ∧ w.cell? ⟨b, 21, none⟩ = some (.pointer (some ⟨dp, 0, none⟩)) ∧ w.cell? ⟨b, 22, none⟩ = some (.slice a n cp) ∧ w.frozen? ⟨b, 22, none⟩ = false := by
  have hl : (ivs c).length = 20 := ivs_len20 hc
  have f : ∀ i v, (millC rp c dp a n cp)[i]? = some v → w.cell? ⟨b, i, none⟩ = some v := fun i v hv => by have := s.rowCell hv; rwa [Nat.zero_add] at this
  have g : ∀ i v, [ptrV dp, Value.slice a n cp][i]? = some v → (millC rp c dp a n cp)[21 + i]? = some v := fun i v hv => by
    unfold millC
    rw [show 21 + i = (20 + i) + 1 by omega, List.getElem?_cons_succ, List.getElem?_append_right (by omega), hl, Nat.add_sub_cancel_left]
    exact hv
  exact ⟨f 0 _ rfl, f 21 _ (g 0 _ rfl), f 22 _ (g 1 _ rfl), by have := s.rowFree (i := 22) (by rw [mill_len hc]; decide); rwa [Nat.zero_add] at this⟩
theorem mill_cfg {b rp dp n cp : Nat} {c : List Int} {a : Option Addr} {W w : World} {R : List HP} (hc : c.length = 20) (s : St W w (row b 0 (millC rp c dp a n cp) :: R)) {i : Nat} (hi : i < 20) :
    w.cell? ⟨b, 1 + i, none⟩ = some (.int .i64 (c.getD i 0)) := by
  have hl : (ivs c).length = 20 := ivs_len20 hc
  have hv : (millC rp c dp a n cp)[1 + i]? = some (.int .i64 (c.getD i 0)) := by
    unfold millC
    rw [Nat.add_comm, List.getElem?_cons_succ, List.getElem?_append_left (by omega), ivs_get (by omega)]
    simp [hc, hi]
  have := s.rowCell hv; rwa [Nat.zero_add] at this
theorem mill_set {rp dp n cp n' cp' : Nat} {c : List Int} {a a' : Option Addr} (hc : c.length = 20) : (millC rp c dp a n cp).set 22 (.slice a' n' cp') = millC rp c dp a' n' cp' := by
  obtain ⟨x0, x1, x2, x3, x4, x5, x6, x7, x8, x9, x10, x11, x12, x13, x14, x15, x16, x17, x18, x19, rfl⟩ := list20 hc
  rfl
def bMil (x y z : Value) : Sem Value := Instr.build 119 #[(0, x), (1, y), (2, z)]
theorem execOp_bMil (ρ : Operand → Value) (dst : Option Tmp) (x y z : Operand) (ty : TypeId) (pos : String) (after : Array Edge) (guard : Option (Nat × Bool)) :
    execOp ρ { dst, op := .build 119 #[(0, x), (1, y), (2, z)], type := ty, pos, after, guard } = (do pure (.value (← bMil (ρ x) (ρ y) (ρ z)))) := by simp [execOp, bMil]
theorem run_bMil {rp dp : Nat} {c : List Int} (hc : c.length = 20) (w : World) : (bMil (.pointer (some ⟨rp, 0, none⟩)) (.agg (ivs c).toArray) (.pointer (some ⟨dp, 0, none⟩))).run Tryz.prog w = .ok (.agg (millC rp c dp none 0 0).toArray) w := by
  obtain ⟨x0, x1, x2, x3, x4, x5, x6, x7, x8, x9, x10, x11, x12, x13, x14, x15, x16, x17, x18, x19, rfl⟩ := list20 hc
  kernel_rfl

section
attribute [local go_sem ↓] execOp_bMil
variable {W w : World} {R : List HP} {post : Ending → World → Prop} {A : RAd} {r : RepV} {c : List Int} {b dp : Nat}

theorem rep_clk (s : St W w (RepA A r :: R)) : w.cell? ⟨A.p, 5, none⟩ = some (.pointer (some ⟨A.clk, 0, none⟩)) ∧ St W w (row A.clk 0 [.int .i64 r.cnt, .int .i64 r.site] :: row A.p 0 (repC A r) :: TabE A.tb 0 r.room r.tab :: TabB A.ow 0 4096 r.own :: IdxH A.ix r.ix :: row A.gr 0 (graC A r) :: TabE A.gp 0 4096 r.gr :: JrnH A.jb A.d :: DskH A.d r.d :: R) :=
  ⟨(repPtr (RepA.open.1 s)).1, (RepA.open.1 s).pick 1⟩

set_option maxRecDepth 100000 in
set_option maxHeartbeats 4000000 in
theorem mnew_c (st : St W w (RepA A r :: R)) (hc : c.length = 20) (hr : rightB c = true) (hs : r.site < c.getD 0 0) (K : ∀ b w', St W w' (row b 0 (millC A.p c dp none 0 0) :: RepA A r :: R) → post (.returned (.tuple #[.pointer (some ⟨b, 0, none⟩), .int .i64 0])) w') :
    Calls Tryz.prog 10 #[.agg (ivs c).toArray, .pointer (some ⟨A.p, 0, none⟩), .pointer (some ⟨dp, 0, none⟩)] w post := by
  have HK := hid K; clear K
  have HC := hid hc; have HR := hid hr
  obtain ⟨n, hn⟩ : ∃ n, c.getD 0 0 = n := ⟨_, rfl⟩
  have HN := hid hn
  obtain ⟨site, hsi⟩ : ∃ site, r.site = site := ⟨_, rfl⟩
  have HSI := hid hsi
  rw [hn, hsi] at hs
  have d1 : decide (n ≤ site) = false := decide_eq_false (by omega)
  have hb := run_bMil (rp := A.p) (dp := dp) hc
  clear hc hr hn hsi hs
  go_enter Tryz.func10, Tryz.ntmps10
  go_wp2_with (first
    | (refine wpl_boxA (vs := ivs c) rfl (.tmp 0) rfl rfl st ?_; rintro T w0 t0)
    | (refine wpl_loadA (vs := ivs c) rfl (.tmp 3) (by rfl) agg32 (by rfl) (ivs_len20 HC.out) t0.rowAll ?_)
    | (go_at_call 35; refine scheck_c t0 HC.out HR.out ?_; rintro w1 t1; have k0 := cfg_at t1 (i := 0) (by rw [HC.out]; decide); rw [HN.out] at k0; obtain ⟨k1, s1⟩ := rep_clk (St.pick 1 t1); rw [HSI.out] at s1))
  go_quiet (first | (go_at_call 36; refine site_c (s1.drewN _) ⟨rfl, _, rfl⟩))
  have s2 := t1.drewN nq
  generalize w1.drewN nq = w2 at s2 ⊢
  have hl : (millC A.p c dp none 0 0).length = 23 := mill_len HC.out
  go_wp2_with (first
    | (refine wpl_loadA (vs := ivs c) rfl (.tmp 3) (by rfl) agg32 (by rfl) (ivs_len20 HC.out) s2.rowAll ?_)
    | (refine wpl_boxA (vs := millC A.p c dp none 0 0) rfl (.tmp 29) rfl rfl s2 ?_; rintro B w3 s3))
  exact HK.out _ _ ((s3.pick 1).drop)

set_option maxRecDepth 100000 in
set_option maxHeartbeats 4000000 in
theorem mnode_yes {p : Int} {a : Option Addr} {n cp : Nat} (hc : c.length = 20) (h0 : 0 ≤ p) (h1 : p < c.getD 0 0) (h2 : p ≠ r.site) (st : St W w (row b 0 (millC A.p c dp a n cp) :: RepA A r :: R))
    (K : post (.returned (.bool true)) w) : Calls Tryz.prog 38 #[.pointer (some ⟨b, 0, none⟩), .int .i64 p] w post := by
  have HK := hid K; clear K
  obtain ⟨nn, hn⟩ : ∃ n, c.getD 0 0 = n := ⟨_, rfl⟩
  obtain ⟨site, hsi⟩ : ∃ site, r.site = site := ⟨_, rfl⟩
  rw [hn] at h1
  rw [hsi] at h2
  have k1 : w.cell? ⟨b, 1, none⟩ = some (.int .i64 nn) := by have := mill_cfg hc st (i := 0) (by decide); rw [hn] at this; exact this
  have k0 := (mill_at hc st).1
  obtain ⟨k2, s1⟩ := rep_clk (St.pick 1 st)
  rw [hsi] at s1
  have d0 : decide (0 ≤ p) = true := decide_eq_true h0
  have d1 : decide (p < nn) = true := decide_eq_true h1
  have d2 : (p != site) = true := by simp [h2]
  clear hn hsi h0 h1 h2
  go_enter Tryz.func38, Tryz.ntmps38
  go_wp2_with (go_at_call 36; refine site_c s1 ?_)
  exact HK.out

set_option maxRecDepth 100000 in
/-- Dice without numbers. -/
theorem clone0_c (K : post (.returned (.slice none 0 0)) w) : Calls Tryz.prog 37 #[.slice none 0 0] w post := by
  have hcmp : ∀ w ao n c, (binOp .eql 24 (.slice ao n c) (.slice none 0 0)).run Tryz.prog w = .ok (.bool ao.isNone) w := fun w ao n c => Lib.run_eql_slice_nil w 24 3 ao n c 0 0 Tryz.underlying24
  have HK := hid K; clear K
  go_enter Tryz.func37, Tryz.ntmps37
  go_wp2_with fail
  exact HK.out
set_option maxRecDepth 100000 in
theorem dicenew_c (st : St W w R) (K : ∀ d w', St W w' (row d 0 [.slice none 0 0] :: R) → post (.returned (.pointer (some ⟨d, 0, none⟩))) w') : Calls Tryz.prog 12 #[.slice none 0 0] w post := by
  have HK := hid K; clear K
  have s1 := st.alloc #[.slice none 0 0] 122
  go_enter Tryz.func12, Tryz.ntmps12
  go_wp2_with (first
    | (go_at_call 37; refine clone0_c ?_)
    | (refine wpl_build rfl rfl (v := .agg [Value.slice none 0 0].toArray) (by kernel_rfl) ?_)
    | (refine wpl_boxA (vs := [.slice none 0 0]) rfl (.tmp 5) rfl rfl st ?_; rintro d w2 s2))
  exact HK.out _ _ s2
end
end Go.Proofs.YtojfjbbggpfijaaGreatDoor

/- A mill with at most one rumor: keep, Heat, Hot, echo, Take of an echo. Printed by mkRumB.py. -/
namespace Go.Proofs.YtojfjbbggpfijaaGreatDoor
open Go.RowKit Go.Qd RepV

theorem Tryz.elem117 : ElemT Tryz.prog 117 139 4 40 := ElemT.mk' Tryz.underlying117 (by kernel_rfl : (Tryz.prog.info? 139).map (fun i => (i.zero, i.size, i.bytes)) = some (some (.agg #[.int .i64 0, .int .i64 0, .string ByteArray.empty, .int .i64 0]), 4, 40)) rfl (by decide) (by simp [Value.cells, Value.oneCell'])
section
variable {W w : World} {R : List HP} {sz n c : Nat} {cs : List Value}
theorem ownSetC {b o i : Nat} {v : Value} (st : St W w (OwnS sz (some ⟨b, o, none⟩) n c cs :: R)) (hl : i < cs.length) (hv : v.oneCell' = true) :
    w.frozen? ⟨b, o + i, none⟩ = false ∧ w.cell? ⟨b, o + i, none⟩ = cs[i]? ∧ St W (w.setCell ⟨b, o + i, none⟩ v) (OwnS sz (some ⟨b, o, none⟩) n c (cs.set i v) :: R) := by
  obtain ⟨sp, p, s⟩ := OwnS.open st
  have s1 : St W w (row b o (cs ++ sp) :: R) := s
  have hi2 : i < (cs ++ sp).length := by rw [List.length_append]; omega
  refine ⟨s1.rowFree hi2, ?_, ?_⟩
  · have := s1.rowCell (i := i) (v := cs[i]) (by rw [List.getElem?_append_left hl, List.getElem?_eq_getElem hl])
    rw [this, List.getElem?_eq_getElem hl]
  · have s2 := s1.rowSet hi2 v
    have e2 : (cs ++ sp).set i v = cs.set i v ++ sp := by rw [List.set_append_left _ _ hl]
    rw [e2] at s2
    refine OwnS.close (sp := sp) ⟨by rw [List.length_set]; exact p.len, p.spare, p.le, p.max, by simp, fun _ => ⟨_, _, rfl⟩, ?_⟩ s2
    intro u hu
    rcases List.mem_or_eq_of_mem_set hu with g | g
    · exact p.one u g
    · rw [g]; exact hv
end
def bTk (x : Value) : Sem Value := Instr.build 139 #[(0, x)]
theorem execOp_bTk (ρ : Operand → Value) (dst : Option Tmp) (x : Operand) (ty : TypeId) (pos : String) (after : Array Edge) (guard : Option (Nat × Bool)) :
    execOp ρ { dst, op := .build 139 #[(0, x)], type := ty, pos, after, guard } = (do pure (.value (← bTk (ρ x)))) := by simp [execOp, bTk]
theorem run_bTk (m : MkV) (w : World) : (bTk (.agg m.cells.toArray)).run Tryz.prog w = .ok (.agg (TkV.cells ⟨m, 0⟩).toArray) w := by kernel_rfl
def bsTk (x : Value) : Sem Value := Instr.buildSlice 117 1 #[(0, x)]
theorem execOp_bsTk (ρ : Operand → Value) (dst : Option Tmp) (x : Operand) (ty : TypeId) (pos : String) (after : Array Edge) (guard : Option (Nat × Bool)) :
    execOp ρ { dst, op := .buildSlice 117 1 #[(0, x)], type := ty, pos, after, guard } = (do pure (.value (← bsTk (ρ x)))) := by simp [execOp, bsTk]
theorem run_bsTk (x : TkV) (w : World) : (bsTk (.agg x.cells.toArray)).run Tryz.prog w = .ok (.slice (some ⟨w.heap.size, 0, none⟩) 1 1) (w.alloc (.cells x.cells.toArray 139)) := by kernel_rfl
theorem execOp_ldEn (ρ : Operand → Value) (dst : Option Tmp) (a : Operand) (ty : TypeId) (pos : String) (after : Array Edge) (guard : Option (Nat × Bool)) :
    execOp ρ { dst, op := .load 67 a, type := ty, pos, after, guard } = (do pure (.value (← loadG 67 (ρ a)))) := rfl

/-- A predicate's value over rumors: what it tells of one; it leaves all as it was. -/
def PredT (W : World) (A : HP) (F : Nat) (v : Value) (x : TkV) (t : Bool) : Prop :=
  ∀ (R' : List HP) (w1 : World) (p1 : Ending → World → Prop), St W w1 (A :: R') → (∀ w2, St W w2 (A :: R') → p1 (.returned (.bool t)) w2) → Calls Tryz.prog F #[.agg x.cells.toArray, v] w1 p1
section
variable {W w : World} {R : List HP} {post : Ending → World → Prop} {c : List Int} {b rp dp : Nat}

theorem idxT0_c {a : Option Addr} {cp : Nat} {v : Value} (K : post (.returned (.int .i64 (-1))) w) : Calls Tryz.prog 87 #[.slice a 0 cp, v] w post := by
  have HK := hid K; clear K
  go_enter Tryz.func87, Tryz.ntmps87
  go_wp2_with fail
  go_loopw [8] (fun ii wr => ii = .int .i64 0 ∧ wr = w) (fun _ _ => 0)
  case atStart => exact ⟨rfl, rfl⟩
  case round =>
    obtain ⟨rfl, rfl⟩ := hrel
    go_wp2_with fail
    exact HK.out

section
attribute [local go_sem ↓] execOp_ldAny
set_option maxRecDepth 100000 in
set_option maxHeartbeats 4000000 in
theorem idxKeep_yes {g o cp : Nat} {x : TkV} {v : Value} {A : HP} (hf : PredT W A 104 v x true)
    (st : St W w (OwnS 4 (some ⟨g, o, none⟩) 1 cp x.cells :: A :: R)) (K : ∀ w', St W w' (OwnS 4 (some ⟨g, o, none⟩) 1 cp x.cells :: A :: R) → post (.returned (.int .i64 0)) w') :
    Calls Tryz.prog 87 #[.slice (some ⟨g, o, none⟩) 1 cp, .func (.func 104) #[] #[v]] w post := by
  have HK := hid K; clear K
  have HF := hid hf; clear hf
  have l0 := run_loadG agg_tk (vs := x.cells) rfl (fun j u hu => (OwnS.rd st).at hu)
  go_enter Tryz.func87, Tryz.ntmps87
  go_wp2_with fail
  go_loopw [8] (fun ii wr => ii = .int .i64 0 ∧ wr = w) (fun _ _ => 0)
  case atStart => exact ⟨rfl, rfl⟩
  case round =>
    obtain ⟨rfl, rfl⟩ := hrel
    go_wp2_with (go_at_call 104; refine HF.out _ _ _ (St.pick 1 st) ?_; rintro w2 s2)
    exact HK.out _ (St.pick 1 s2)
end

section
attribute [local go_sem ↓] execOp_ldAny
set_option maxRecDepth 100000 in
set_option maxHeartbeats 4000000 in
theorem idxEcho_yes {g o cp : Nat} {x : TkV} {v : Value} {A : HP} (hf : PredT W A 88 v x true)
    (st : St W w (OwnS 4 (some ⟨g, o, none⟩) 1 cp x.cells :: A :: R)) (K : ∀ w', St W w' (OwnS 4 (some ⟨g, o, none⟩) 1 cp x.cells :: A :: R) → post (.returned (.int .i64 0)) w') :
    Calls Tryz.prog 87 #[.slice (some ⟨g, o, none⟩) 1 cp, .func (.func 88) #[] #[v]] w post := by
  have HK := hid K; clear K
  have HF := hid hf; clear hf
  have l0 := run_loadG agg_tk (vs := x.cells) rfl (fun j u hu => (OwnS.rd st).at hu)
  go_enter Tryz.func87, Tryz.ntmps87
  go_wp2_with fail
  go_loopw [8] (fun ii wr => ii = .int .i64 0 ∧ wr = w) (fun _ _ => 0)
  case atStart => exact ⟨rfl, rfl⟩
  case round =>
    obtain ⟨rfl, rfl⟩ := hrel
    go_wp2_with (go_at_call 88; refine HF.out _ _ _ (St.pick 1 st) ?_; rintro w2 s2)
    exact HK.out _ (St.pick 1 s2)
end

theorem delT0_c {f : Value} (K : post (.returned (.slice none 0 0)) w) : Calls Tryz.prog 103 #[.slice none 0 0, f] w post := by
  have HK := hid K; clear K
  go_enter Tryz.func103, Tryz.ntmps103
  go_wp2_with (go_at_call 87; refine idxT0_c ?_)
  exact HK.out
set_option maxRecDepth 100000 in
set_option maxHeartbeats 4000000 in
theorem delT1_c {g o cp : Nat} {x : TkV} {v : Value} {A : HP} (hf : PredT W A 104 v x true)
    (st : St W w (OwnS 4 (some ⟨g, o, none⟩) 1 cp x.cells :: A :: R)) (K : ∀ w', St W w' (OwnS 4 (some ⟨g, o, none⟩) 0 cp [] :: A :: R) → post (.returned (.slice (some ⟨g, o, none⟩) 0 cp)) w') :
    Calls Tryz.prog 103 #[.slice (some ⟨g, o, none⟩) 1 cp, .func (.func 104) #[] #[v]] w post := by
  have HK := hid K; clear K
  have HF := hid hf; clear hf
  have hle : 1 ≤ cp := (OwnS.rd st).le
  obtain ⟨ax, cx, ht, hs1⟩ := run_slice_from (P := Tryz.prog) Tryz.elem117 (some ⟨g, o, none⟩) 1 cp 0 1 (i := 0) rfl rfl
  have hs2 := run_slice_to (P := Tryz.prog) Tryz.elem117 (some ⟨g, o, none⟩) 1 cp 0 (Nat.zero_le _)
  have HT := hid ht; have HLE := hid hle
  clear ht hle
  go_enter Tryz.func103, Tryz.ntmps103
  go_wp2_with (go_at_call 87; refine idxKeep_yes HF.out st ?_; rintro w2 s2)
  go_loopw [5, 6] (fun ii jj wr => ii = .int .i64 0 ∧ jj = .int .i64 1 ∧ wr = w2) (fun _ _ _ => 0)
  case atStart => exact ⟨rfl, rfl, rfl⟩
  case round =>
    obtain ⟨rfl, rfl, rfl⟩ := hrel
    have s3 : St W wr (OwnS 4 (some ⟨g, o, none⟩) 0 cp [] :: A :: R) := OwnS.short s2 (Nat.zero_le _)
    go_wp2_with (refine wpl_clear rfl _ rfl Tryz.elem117 rfl s3 (by have := HLE.out; omega) HT.out ?_; rintro w4 s4)
    exact HK.out _ s4

/-- keep's own predicate, where what is asked tells no. -/
theorem keep1_no {P : Nat} {x : TkV} {v : Value} {A : HP} (hf : PredT W A 89 v x false) : PredT W (sepL [row P 0 [.func (.func 89) #[] #[v]], A]) 104 (.pointer (some ⟨P, 0, none⟩)) x true := by
  intro R' w1 p1 s0 K
  have HK := hid K; clear K
  have HF := hid hf; clear hf
  have st : St W w1 (row P 0 [.func (.func 89) #[] #[v]] :: A :: R') := (St.flat [row P 0 [.func (.func 89) #[] #[v]], A]).1 s0
  have hL : x.cells.length = 4 := rfl
  go_enter Tryz.func104, Tryz.ntmps104
  go_wp2_with (first
    | (refine wpl_boxA (vs := x.cells) rfl (.tmp 0) rfl rfl st ?_; rintro T w2 s2; have c0 := row1c (St.pick 1 s2))
    | (refine wpl_loadA (vs := x.cells) rfl (.tmp 2) (by rfl) agg_tk (by rfl) rfl s2.rowAll ?_)
    | (go_at_call 89; refine HF.out _ _ _ (St.pick 2 s2) ?_; rintro w3 s3))
  exact HK.out _ ((St.flat [row P 0 [.func (.func 89) #[] #[v]], A]).2 ((s3.pick 1).drop.pick 1))

/-- echo's second predicate: did too many know it? -/
theorem echo2_no {M n cp : Nat} {x : TkV} {a : Option Addr} (hc : c.length = 20) (hx : c.getD 15 0 ≤ x.n) : PredT W (sepL [row M 0 [.pointer (some ⟨b, 0, none⟩)], row b 0 (millC rp c dp a n cp)]) 89 (.pointer (some ⟨M, 0, none⟩)) x false := by
  intro R' w1 p1 s0 K
  have HK := hid K; clear K
  have st : St W w1 (row M 0 [.pointer (some ⟨b, 0, none⟩)] :: row b 0 (millC rp c dp a n cp) :: R') := (St.flat [row M 0 [.pointer (some ⟨b, 0, none⟩)], row b 0 (millC rp c dp a n cp)]).1 s0
  obtain ⟨z, hz⟩ : ∃ z, c.getD 15 0 = z := ⟨_, rfl⟩
  rw [hz] at hx
  have d1 : decide (x.n < z) = false := decide_eq_false (by omega)
  have HC := hid hc; have HZ := hid hz
  clear hc hz hx
  go_enter Tryz.func89, Tryz.ntmps89
  go_wp2_with (refine wpl_boxA (vs := x.cells) rfl (.tmp 0) rfl rfl st ?_; rintro T w2 s2; have c0 := row1c (St.pick 1 s2); have c1 : w2.cell? ⟨b, 16, none⟩ = some (.int .i64 z) := (by have := mill_cfg HC.out (St.pick 2 s2) (i := 15) (by decide); rw [HZ.out] at this; exact this); have c2 : w2.cell? ⟨T, 3, none⟩ = some (.int .i64 x.n) := (by have := s2.rowCell (i := 3) (v := .int .i64 x.n) rfl; rwa [Nat.zero_add] at this))
  go_quiet (fail)
  have s3 := s2.drewN nq
  generalize w2.drewN nq = w3 at s3 ⊢
  go_wp2_with fail
  exact HK.out _ ((St.flat [row M 0 [.pointer (some ⟨b, 0, none⟩)], row b 0 (millC rp c dp a n cp)]).2 s3.drop)

section
attribute [local go_sem ↓] execOp_ldAny execOp_eqM
/-- echo's first predicate: the same mark. -/
theorem echo1_is {M : Nat} {x : TkV} : PredT W (row M 0 x.m.cells) 88 (.pointer (some ⟨M, 0, none⟩)) x true := by
  intro R' w1 p1 st K
  have HK := hid K; clear K
  have gE : ∀ (y z : Operand) (w : World), (eqMG y z (.agg x.m.cells.toArray) (.agg x.m.cells.toArray)).run Tryz.prog w = .ok (.bool true) w := by
    intro y z w
    unfold eqMG MkV.cells
    go_simp
  go_enter Tryz.func88, Tryz.ntmps88
  go_wp2_with (refine wpl_boxA (vs := x.cells) rfl (.tmp 0) rfl rfl st ?_; rintro T w2 s2; have l0 := run_loadG agg54 (vs := x.m.cells) rfl (St.rowPart s2 0 (xs := x.m.cells) (ys := [.int .i64 x.n]) rfl); have l1 := run_loadG agg54 (vs := x.m.cells) rfl (St.pick 1 s2).rowAll)
  exact HK.out _ s2.drop
end
end
end Go.Proofs.YtojfjbbggpfijaaGreatDoor

/- A mill with at most one rumor: keep, Heat, Hot, echo, Take of an echo. -/
namespace Go.Proofs.YtojfjbbggpfijaaGreatDoor
open Go.RowKit Go.Qd RepV

def bsMk (x : Value) : Sem Value := Instr.buildSlice 60 1 #[(0, x)]
theorem execOp_bsMk (ρ : Operand → Value) (dst : Option Tmp) (x : Operand) (ty : TypeId) (pos : String) (after : Array Edge) (guard : Option (Nat × Bool)) :
    execOp ρ { dst, op := .buildSlice 60 1 #[(0, x)], type := ty, pos, after, guard } = (do pure (.value (← bsMk (ρ x)))) := by simp [execOp, bsMk]
theorem run_bsMk (x : MkV) (w : World) : (bsMk (.agg x.cells.toArray)).run Tryz.prog w = .ok (.slice (some ⟨w.heap.size, 0, none⟩) 1 1) (w.alloc (.cells x.cells.toArray 59)) := by kernel_rfl
section
variable {W w : World} {R : List HP} {post : Ending → World → Prop} {c : List Int} {b rp dp : Nat}

set_option maxRecDepth 100000 in
set_option maxHeartbeats 4000000 in
theorem keep0_c {F : Nat} {v : Value} (hc : c.length = 20) (st : St W w (row b 0 (millC rp c dp none 0 0) :: R)) (K : ∀ w', St W w' (row b 0 (millC rp c dp none 0 0) :: R) → post (.returned (.tuple #[])) w') :
    Calls Tryz.prog 51 #[.pointer (some ⟨b, 0, none⟩), .func (.func F) #[] #[v]] w post := by
  have HK := hid K; clear K
  have s1 := st.alloc #[.func (.func F) #[] #[v]] 140
  obtain ⟨k0, k1, k2, k3⟩ := mill_at hc (St.pick 1 s1)
  have s2 := (St.pick 1 s1).rowSet (i := 22) (by rw [mill_len hc]; decide) (.slice none 0 0)
  rw [mill_set hc] at s2
  rw [Nat.zero_add] at s2
  have Hm : ∀ fn first cap w, (Instr.makeFunc fn first cap).run Tryz.prog w = .ok (.func fn first cap) w := fun _ _ _ _ => rfl
  clear hc
  go_enter Tryz.func51, Tryz.ntmps51
  go_wp2_with (go_at_call 103; refine delT0_c ?_)
  go_end0
  exact HK.out _ ((s2.pick 1).drop)

set_option maxRecDepth 100000 in
set_option maxHeartbeats 4000000 in
theorem keepDel_c {g o cp M : Nat} {x : TkV} (hc : c.length = 20) (hx : c.getD 15 0 ≤ x.n) (st : St W w (OwnS 4 (some ⟨g, o, none⟩) 1 cp x.cells :: row M 0 [.pointer (some ⟨b, 0, none⟩)] :: row b 0 (millC rp c dp (some ⟨g, o, none⟩) 1 cp) :: R))
    (K : ∀ w', St W w' (OwnS 4 (some ⟨g, o, none⟩) 0 cp [] :: row b 0 (millC rp c dp (some ⟨g, o, none⟩) 0 cp) :: R) → post (.returned (.tuple #[])) w') :
    Calls Tryz.prog 51 #[.pointer (some ⟨b, 0, none⟩), .func (.func 89) #[] #[.pointer (some ⟨M, 0, none⟩)]] w post := by
  have HK := hid K; clear K
  have s1 := st.alloc #[.func (.func 89) #[] #[.pointer (some ⟨M, 0, none⟩)]] 140
  have s2 : St W (w.alloc (.cells #[.func (.func 89) #[] #[.pointer (some ⟨M, 0, none⟩)]] 140)) (OwnS 4 (some ⟨g, o, none⟩) 1 cp x.cells :: sepL [row w.heap.size 0 [.func (.func 89) #[] #[.pointer (some ⟨M, 0, none⟩)]], sepL [row M 0 [.pointer (some ⟨b, 0, none⟩)], row b 0 (millC rp c dp (some ⟨g, o, none⟩) 1 cp)]] :: R) := by
    have t1 := (St.flat [row M 0 [.pointer (some ⟨b, 0, none⟩)], row b 0 (millC rp c dp (some ⟨g, o, none⟩) 1 cp)]).2 (s1.perm [2, 2])
    have t2 := (St.flat [row w.heap.size 0 [.func (.func 89) #[] #[.pointer (some ⟨M, 0, none⟩)]], sepL [row M 0 [.pointer (some ⟨b, 0, none⟩)], row b 0 (millC rp c dp (some ⟨g, o, none⟩) 1 cp)]]).2 (t1.pick 1)
    exact t2.pick 1
  obtain ⟨k0, k1, k2, k3⟩ := mill_at hc (St.pick 3 s1)
  have HC := hid hc
  have HX := hid hx
  have Hm : ∀ fn first cap w, (Instr.makeFunc fn first cap).run Tryz.prog w = .ok (.func fn first cap) w := fun _ _ _ _ => rfl
  clear hc hx
  go_enter Tryz.func51, Tryz.ntmps51
  go_wp2_with (go_at_call 103; refine delT1_c (keep1_no (echo2_no HC.out HX.out)) s2 ?_; rintro w3 s3
               have t1 := (St.flat [row w.heap.size 0 [.func (.func 89) #[] #[.pointer (some ⟨M, 0, none⟩)]], sepL [row M 0 [.pointer (some ⟨b, 0, none⟩)], row b 0 (millC rp c dp (some ⟨g, o, none⟩) 1 cp)]]).1 (s3.pick 1)
               have t2 : St W w3 (row b 0 (millC rp c dp (some ⟨g, o, none⟩) 1 cp) :: row M 0 [.pointer (some ⟨b, 0, none⟩)] :: row w.heap.size 0 [.func (.func 89) #[] #[.pointer (some ⟨M, 0, none⟩)]] :: OwnS 4 (some ⟨g, o, none⟩) 0 cp [] :: R) := ((St.flat [row M 0 [.pointer (some ⟨b, 0, none⟩)], row b 0 (millC rp c dp (some ⟨g, o, none⟩) 1 cp)]).1 (t1.pick 1)).pick 1
               obtain ⟨j0, j1, j2, j3⟩ := mill_at HC.out t2
               have s4 := t2.rowSet (i := 22) (by rw [mill_len HC.out]; decide) (.slice (some ⟨g, o, none⟩) 0 cp)
               rw [mill_set HC.out] at s4
               rw [Nat.zero_add] at s4)
  go_end0
  exact HK.out _ (((((s4.pick 3).pick 2).drop).pick 2).drop)

section
attribute [local go_sem ↓] execOp_ldEn execOp_bTk execOp_bsTk
attribute [local go_sem] run_bTk run_bsTk
set_option maxRecDepth 100000 in
set_option maxHeartbeats 8000000 in
theorem heat0_c {e : EnV} (hc : c.length = 20) (he : checkE e = 0) (hh : 1 ≤ c.getD 14 0) (st : St W w (row b 0 (millC rp c dp none 0 0) :: R))
    (K : ∀ a cp w', St W w' (OwnS 4 a 1 cp (TkV.cells ⟨e.mark, 0⟩) :: row b 0 (millC rp c dp a 1 cp) :: R) → post (.returned (.tuple #[])) w') :
    Calls Tryz.prog 19 #[.pointer (some ⟨b, 0, none⟩), .agg e.cells.toArray] w post := by
  have HK := hid K; clear K
  have HC := hid hc; have HE := hid he
  obtain ⟨z, hz⟩ : ∃ z, c.getD 14 0 = z := ⟨_, rfl⟩
  rw [hz] at hh
  have HZ := hid hz
  have dz : decide (z < 1) = false := decide_eq_false (by omega)
  have Hm : ∀ fn first cap w, (Instr.makeFunc fn first cap).run Tryz.prog w = .ok (.func fn first cap) w := fun _ _ _ _ => rfl
  have hb1 : (0 + 1) * 40 ≤ 140737488355328 := by decide
  have hm1 : 0 + 1 ≤ maxLen := by unfold maxLen; decide
  clear hc he hz hh
  go_enter Tryz.func19, Tryz.ntmps19
  go_upto_region 3 with (first
    | (refine wpl_boxA (vs := e.cells) rfl (.tmp 1) rfl rfl st ?_; rintro E w1 s1; have l0 := run_loadG agg_en (vs := e.cells) rfl s1.rowAll)
    | (go_at_call 50; refine check_c s1 ?_; rintro w2 s2; rw [HE.out])
    | (go_at_call 51; refine keep0_c HC.out (St.pick 1 s2) ?_; rintro w3 s3))
  try simp only [Act.put, List.setIfInBounds_toArray, List.set_cons_succ, List.set_cons_zero]
  go_cut [] (fun wx => ∃ a cp, St W wx (OwnS 4 a 1 cp (TkV.cells ⟨e.mark, 0⟩) :: row b 0 (millC rp c dp a 1 cp) :: R))
  case first =>
    have u := s3.drew
    have f0 := run_loadG agg_en (vs := e.cells) rfl (St.pick 1 u).rowAll
    obtain ⟨-, -, g2, g3⟩ := mill_at HC.out u
    go_region_law (first
      | (go_simp; go_at_call 53; refine emark_c u ?_; rintro w5 s5; have f5 := run_loadG agg_en (vs := e.cells) rfl (St.pick 1 s5).rowAll; obtain ⟨-, -, p2, p3⟩ := mill_at HC.out s5; have s6 := s5.alloc (TkV.cells ⟨e.mark, 0⟩).toArray 139; have r6 := St.rowRd (sz := 4) (n := 1) s6 rfl (by decide) (tk_one _); obtain ⟨-, -, q2, q3⟩ := mill_at HC.out (St.pick 1 s6); have s7 : St W _ (OwnS 4 none 0 0 [] :: _) := OwnS.none0 s6)
      | (refine step_append_st rfl (.tmp 14) (.tmp 18) rfl Tryz.elem117 rfl rfl s7 r6 hb1 hm1 ?_; rintro a8 c8 w8 s8; obtain ⟨-, -, r2, r3⟩ := mill_at HC.out (St.pick 2 s8)))
    all_goals
      go_wp2_with fail
      go_meet
      case rel =>
        have s9 := (St.pick 2 s8).rowSet (i := 22) (by rw [mill_len HC.out]; decide) (.slice a8 (0 + 1) c8)
        rw [mill_set HC.out] at s9
        rw [Nat.zero_add] at s9
        exact ⟨a8, c8, ((((s9.pick 1).pick 2).drop).pick 2).drop⟩
  case rest =>
  obtain ⟨a, cp, s9⟩ := hcut
  obtain ⟨-, -, r2, r3⟩ := mill_at HC.out (St.pick 1 s9)
  have r4 := mill_cfg HC.out (St.pick 1 s9) (i := 14) (by decide)
  rw [HZ.out] at r4
  simp only [Nat.reduceAdd] at r4
  go_wp2_with fail
  go_quiet (fail)
  go_wp2_with fail
  go_end0
  exact HK.out _ _ _ (s9.drewN nq)
end

set_option maxRecDepth 100000 in
set_option maxHeartbeats 4000000 in
theorem hot0_c {a : Option Addr} {cp : Nat} (hc : c.length = 20) (st : St W w (row b 0 (millC rp c dp a 0 cp) :: R)) (K : ∀ w', St W w' (row b 0 (millC rp c dp a 0 cp) :: R) → post (.returned (.slice none 0 0)) w') :
    Calls Tryz.prog 22 #[.pointer (some ⟨b, 0, none⟩)] w post := by
  have HK := hid K; clear K
  obtain ⟨k0, k1, k2, k3⟩ := mill_at hc st
  clear hc
  go_enter Tryz.func22, Tryz.ntmps22
  go_wp2_with fail
  go_loopw [3, 11] (fun oo ii wr => oo = .slice none 0 0 ∧ ii = .int .i64 0 ∧ wr = w) (fun _ _ _ => 0)
  case atStart => exact ⟨rfl, rfl, rfl⟩
  case round =>
    obtain ⟨rfl, rfl, rfl⟩ := hrel
    go_wp2_with fail
    exact HK.out _ st

section
attribute [local go_sem ↓] execOp_ldAny execOp_bsMk
attribute [local go_sem] run_bsMk
set_option maxRecDepth 100000 in
set_option maxHeartbeats 4000000 in
theorem hot1_c {a : Option Addr} {cp : Nat} {x : TkV} (hc : c.length = 20) (st : St W w (OwnS 4 a 1 cp x.cells :: row b 0 (millC rp c dp a 1 cp) :: R)) (K : ∀ ao c' w', St W w' (OwnS 4 a 1 cp x.cells :: row b 0 (millC rp c dp a 1 cp) :: R) → post (.returned (.slice ao 1 c')) w') :
    Calls Tryz.prog 22 #[.pointer (some ⟨b, 0, none⟩)] w post := by
  have HK := hid K; clear K
  obtain ⟨g, o, rfl⟩ := (OwnS.rd st).addr (by decide)
  have l2 := run_ldP (t := 117) (by kernel_rfl) (mill_at hc (St.pick 1 st)).2.2.1
  have l0 := run_loadG agg_tk (vs := x.cells) rfl (fun j u hu => (OwnS.rd st).at hu)
  clear hc
  go_enter Tryz.func22, Tryz.ntmps22
  go_wp2_with fail
  go_loopw [3, 11] (fun oo ii wr => ∃ i : Nat, ∃ ao cc, i ≤ 1 ∧ oo = .slice ao i cc ∧ ii = .int .i64 i ∧ Hid (i = 0 → wr = w) ∧ St W wr (OwnS 3 ao i cc (List.replicate i x.m.cells).flatten :: OwnS 4 (some ⟨g, o, none⟩) 1 cp x.cells :: row b 0 (millC rp c dp (some ⟨g, o, none⟩) 1 cp) :: R)) (fun _ ii _ => 1 - (intOf ii).toNat)
  case atStart => exact ⟨0, none, 0, by decide, rfl, rfl, hid (fun _ => rfl), OwnS.none0 st⟩
  case round =>
    obtain ⟨i, ao, cc, hi, rfl, rfl, hw, sr⟩ := hrel
    match i, hi with
    | 0, _ =>
      have hwr := hw.out rfl
      subst hwr
      have hb1 : (0 + 1) * 32 ≤ 140737488355328 := by decide
      have hm1 : 0 + 1 ≤ maxLen := by unfold maxLen; decide
      clear hw
      go_wp2_with (first
        | (refine wpl_allocA (vs := [.int .i64 0, .int .i64 0, .string ByteArray.empty, .int .i64 0]) rfl rfl (fun _ => by kernel_rfl) sr ?_; rintro T w2 s2)
        | (refine wpl_storeA (vs := x.cells) rfl (.tmp 5) (.tmp 14) (by rfl) agg_tk (by rfl) (by rfl) rfl (tk_one _) s2 rfl ?_; rintro w3 s3; have l1 := run_loadG agg54 (vs := x.m.cells) rfl (St.rowPart s3 0 (xs := x.m.cells) (ys := [.int .i64 x.n]) rfl); have s4 := s3.alloc x.m.cells.toArray 59; have r4 := St.rowRd (sz := 3) (n := 1) s4 rfl (by decide) (mk_one x.m); have s5 := St.pick 2 s4)
        | (at_builtin; refine wpl_append rfl (.tmp 15) (.tmp 18) rfl Tryz.elem60 rfl rfl s5 r4 hb1 hm1 ?_; rintro a8 c8 w8 s8))
      go_roundw
      case rel => exact ⟨1, a8, c8, by decide, rfl, by go_num, hid (fun h => by cases h), by have := (((s8.pick 1).drop).pick 1).drop; exact this⟩
      case measure => simp [intOf]
    | 1, _ =>
      clear hw
      go_wp2_with fail
      exact HK.out _ _ _ sr.drop
end
end
end Go.Proofs.YtojfjbbggpfijaaGreatDoor

/- A mill with at most one rumor: echo, Take of an echo. -/
namespace Go.Proofs.YtojfjbbggpfijaaGreatDoor
open Go.RowKit Go.Qd RepV

/-- An echo of one mark. -/
def echM (a : Option Addr) (q : Nat) : MsgV := { kindM 15 with ma := a, mn := 1, mq := q }
section
variable {W w : World} {R : List HP} {post : Ending → World → Prop} {c : List Int} {b dp : Nat} {A : RAd} {r : RepV}

set_option maxRecDepth 100000 in
set_option maxHeartbeats 8000000 in
theorem echo1_c {rp g o cp : Nat} {k : MkV} (hc : c.length = 20) (hx : c.getD 15 0 ≤ 1) (st : St W w (OwnS 4 (some ⟨g, o, none⟩) 1 cp (TkV.cells ⟨k, 0⟩) :: row b 0 (millC rp c dp (some ⟨g, o, none⟩) 1 cp) :: R))
    (K : ∀ w', St W w' (OwnS 4 (some ⟨g, o, none⟩) 0 cp [] :: row b 0 (millC rp c dp (some ⟨g, o, none⟩) 0 cp) :: R) → post (.returned (.tuple #[])) w') :
    Calls Tryz.prog 40 #[.pointer (some ⟨b, 0, none⟩), .agg k.cells.toArray] w post := by
  have HK := hid K; clear K
  have HC := hid hc; have HX := hid hx
  have s1 := st.alloc #[.pointer (some ⟨b, 0, none⟩)] 31
  have Hm : ∀ fn first cap w, (Instr.makeFunc fn first cap).run Tryz.prog w = .ok (.func fn first cap) w := fun _ _ _ _ => rfl
  clear hc hx
  go_enter Tryz.func40, Tryz.ntmps40
  go_wp2_with (first
    | (refine wpl_boxA (vs := k.cells) rfl (.tmp 1) rfl rfl s1 ?_; rintro T w2 s2'
       have s2 : St W w2 (OwnS 4 (some ⟨g, o, none⟩) 1 cp (TkV.cells ⟨k, 0⟩) :: row T 0 k.cells :: row w.heap.size 0 [.pointer (some ⟨b, 0, none⟩)] :: row b 0 (millC rp c dp (some ⟨g, o, none⟩) 1 cp) :: R) := s2'.pick 2
       have c0 := row1c (St.pick 2 s2)
       obtain ⟨k0, k1, k2, k3⟩ := mill_at HC.out (St.pick 3 s2))
    | (go_at_call 87; refine idxEcho_yes (echo1_is (x := ⟨k, 0⟩)) s2 ?_; rintro w3 s3
       have d0 := row1c (St.pick 2 s3)
       obtain ⟨j0, j1, j2, j3⟩ := mill_at HC.out (St.pick 3 s3)
       obtain ⟨f1, f2, s4'⟩ := ownSetC (i := 3) (v := .int .i64 1) s3 (by show 3 < 4; decide) rfl
       have f3 : w3.cell? ⟨g, o + 3, none⟩ = some (.int .i64 0) := f2
       clear f2
       have s4 : St W (w3.setCell ⟨g, o + 3, none⟩ (.int .i64 1)) (OwnS 4 (some ⟨g, o, none⟩) 1 cp (TkV.cells ⟨k, 1⟩) :: row T 0 k.cells :: row w.heap.size 0 [.pointer (some ⟨b, 0, none⟩)] :: row b 0 (millC rp c dp (some ⟨g, o, none⟩) 1 cp) :: R) := s4'
       clear s4'
       have e0 := row1c (St.pick 2 s4))
    | (go_at_call 51; refine keepDel_c (x := ⟨k, 1⟩) HC.out HX.out (s4.perm [0, 1, 1]) ?_; rintro w5 s5))
  go_end0
  exact HK.out _ ((s5.pick 2).drop)

set_option maxRecDepth 100000 in
set_option maxHeartbeats 4000000 in
theorem mmerge0_c {p : Value} (st : St W w R) (K : ∀ w', St W w' R → post (.returned (.tuple #[.slice none 0 0, .slice none 0 0, .int .i64 0])) w') :
    Calls Tryz.prog 41 #[p, .slice none 0 0] w post := by
  have HK := hid K; clear K
  go_enter Tryz.func41, Tryz.ntmps41
  go_wp2_with fail
  go_loopw [4, 5, 14] (fun oo kk ii wr => oo = .slice none 0 0 ∧ kk = .slice none 0 0 ∧ ii = .int .i64 0 ∧ St W wr R) (fun _ _ _ _ => 0)
  case atStart => exact ⟨rfl, rfl, rfl, st⟩
  case round =>
    obtain ⟨rfl, rfl, rfl, sr⟩ := hrel
    go_wp2_with fail
    go_ret3
    exact HK.out _ sr

/-- A message in its box. -/
theorem msg_ld {T : Nat} {m : MsgV} (s : St W w (row T 0 m.cells :: R)) : (loadG 62 (.pointer (some ⟨T, 0, none⟩))).run Tryz.prog w = .ok (.agg m.cells.toArray) w ∧ (loadG 3 (.pointer (some ⟨T, 0, none⟩))).run Tryz.prog w = .ok (.int .i64 m.kind) w ∧
    (loadG 54 (.pointer (some ⟨T, 11, none⟩))).run Tryz.prog w = .ok (.slice m.ea m.en m.eq) w ∧ (loadG 60 (.pointer (some ⟨T, 10, none⟩))).run Tryz.prog w = .ok (.slice m.ma m.mn m.mq) w := by
  obtain ⟨l0, l1, l2, l3, l4, l5, l6, l7, l8, l9⟩ := msgL s
  exact ⟨lg58 s, l0, l9, l8⟩
theorem good1_c {k : MkV} {a : Option Addr} {q : Nat} (hg : goodX (echM a q) 15 [k] [] = true) (hm : Rds W R 3 a 1 q (mkC [k])) (st : St W w R) (K : ∀ w', St W w' R → post (.returned (.int .i64 0)) w') :
    Calls Tryz.prog 39 #[.agg (echM a q).cells.toArray] w post :=
  goodx_c (m := echM a q) (ks := [k]) (es := []) (k := 15) (by decide) (by decide) rfl (fun _ _ => RdS.none0 _ _) (by show 0 ≤ 4096; decide) hm (by show 1 ≤ 4096; decide) (fun _ _ => RdS.none0 _ _) (by show 0 ≤ 4096; decide) st (fun w' s => by rw [if_pos hg]; exact K w' s)

/-- What is hot behind i rounds. -/
def hotI (k : MkV) : Nat → List Value
  | 0 => TkV.cells ⟨k, 0⟩
  | _ + 1 => []
section
attribute [local go_sem ↓] execOp_ldAny
set_option maxRecDepth 100000 in
set_option maxHeartbeats 8000000 in
theorem takeEcho_c {p : Int} {g o cp q : Nat} {ma : Option Addr} {k : MkV} (hc : c.length = 20) (h0 : 0 ≤ p) (h1 : p < c.getD 0 0) (h2 : p ≠ r.site) (hx : c.getD 15 0 ≤ 1) (hg : goodX (echM ma q) 15 [k] [] = true)
    (st : St W w (OwnS 4 (some ⟨g, o, none⟩) 1 cp (TkV.cells ⟨k, 0⟩) :: row b 0 (millC A.p c dp (some ⟨g, o, none⟩) 1 cp) :: RepA A r :: OwnS 3 ma 1 q (mkC [k]) :: R))
    (K : ∀ w', St W w' (row b 0 (millC A.p c dp (some ⟨g, o, none⟩) 0 cp) :: R) → post (.returned (.tuple #[.slice none 0 0, .slice none 0 0, .int .i64 0])) w') :
    Calls Tryz.prog 13 #[.pointer (some ⟨b, 0, none⟩), .int .i64 p, .agg (echM ma q).cells.toArray] w post := by
  have HK := hid K; clear K
  have HC := hid hc; have H0 := hid h0; have H1 := hid h1; have H2 := hid h2; have HG := hid hg; have HX := hid hx
  obtain ⟨mb, mo, rfl⟩ := (OwnS.rd (St.pick 3 st)).addr (by decide)
  clear hc h0 h1 h2 hg hx
  go_enter Tryz.func13, Tryz.ntmps13
  go_wp2_with (first
    | (refine wpl_boxA (vs := (echM (some ⟨mb, mo, none⟩) q).cells) rfl (.tmp 2) rfl rfl st ?_; rintro T w1 s1'; have s1 : St W w1 (OwnS 3 (some ⟨mb, mo, none⟩) 1 q (mkC [k]) :: row T 0 (echM (some ⟨mb, mo, none⟩) q).cells :: OwnS 4 (some ⟨g, o, none⟩) 1 cp (TkV.cells ⟨k, 0⟩) :: row b 0 (millC A.p c dp (some ⟨g, o, none⟩) 1 cp) :: RepA A r :: R) := s1'.pick 4; obtain ⟨l0, l1, l2, l3⟩ := msg_ld (St.pick 1 s1); simp only [echM, kindM] at l1 l2 l3)
    | (go_at_call 38; refine mnode_yes HC.out H0.out H1.out H2.out (s1.perm [3, 3]) ?_)
    | (go_at_call 39; refine good1_c HG.out OwnS.rds s1 ?_; rintro w2 s2; clear l0 l1 l2 l3; obtain ⟨m0, m1, m2, m3⟩ := msg_ld (St.pick 1 s2); simp only [echM, kindM] at m1 m2 m3))
  go_loopw [40] (fun ii wr => ∃ i : Nat, i ≤ 1 ∧ ii = .int .i64 i ∧ Hid (i = 0 → wr = w2) ∧ St W wr (OwnS 4 (some ⟨g, o, none⟩) (1 - i) cp (hotI k i) :: row b 0 (millC A.p c dp (some ⟨g, o, none⟩) (1 - i) cp) :: row T 0 (echM (some ⟨mb, mo, none⟩) q).cells :: OwnS 3 (some ⟨mb, mo, none⟩) 1 q (mkC [k]) :: RepA A r :: R)) (fun ii _ => 1 - (intOf ii).toNat)
  case atStart => exact ⟨0, by decide, rfl, hid (fun _ => rfl), s2.perm [2, 2, 1, 0]⟩
  case round =>
    obtain ⟨i, hi, rfl, hw, sr⟩ := hrel
    have h01 : i = 0 ∨ i = 1 := by omega
    clear hi
    rcases h01 with rfl | rfl
    · have hwr := hw.out rfl
      subst hwr
      clear hw
      have sr0 : St W wr (OwnS 4 (some ⟨g, o, none⟩) 1 cp (TkV.cells ⟨k, 0⟩) :: row b 0 (millC A.p c dp (some ⟨g, o, none⟩) 1 cp) :: row T 0 (echM (some ⟨mb, mo, none⟩) q).cells :: OwnS 3 (some ⟨mb, mo, none⟩) 1 q (mkC [k]) :: RepA A r :: R) := sr
      have lk := run_loadG agg54 (vs := k.cells) rfl (fun j u hu => (OwnS.rd (St.pick 3 sr0)).at (show (mkC [k])[j]? = some u by simpa [mkC] using hu))
      go_wp2_with (first
        | (refine wpl_allocA (vs := [.int .i64 0, .int .i64 0, .string ByteArray.empty]) rfl rfl (fun _ => by kernel_rfl) sr0 ?_; rintro E w4 s4)
        | (refine wpl_storeA (vs := k.cells) rfl (.tmp 10) (.tmp 43) (by rfl) agg54 (by rfl) (by rfl) rfl (mk_one k) s4 rfl ?_; rintro w5 s5; have lE := run_loadG agg54 (vs := k.cells) rfl s5.rowAll)
        | (go_at_call 40; refine echo1_c HC.out HX.out (s5.perm [1, 1]) ?_; rintro w6 s6))
      go_roundw
      case rel => exact ⟨1, by decide, by go_num, hid (fun h => by cases h), (s6.pick 2).drop⟩
      case measure => simp [intOf]
    · clear hw
      obtain ⟨n0, n1, n2, n3⟩ := msg_ld (St.pick 2 sr)
      simp only [echM, kindM] at n1 n2 n3
      go_wp2_with (go_at_call 41; refine mmerge0_c sr ?_; rintro w7 s7; clear n0 n1 n2 n3; obtain ⟨n0, n1, n2, n3⟩ := msg_ld (St.pick 2 s7); simp only [echM, kindM] at n1 n2 n3)
      go_ret3
      exact HK.out _ ((((((s7.drop).pick 1).drop).pick 1).drop.pick 1).drop)
end
end
end Go.Proofs.YtojfjbbggpfijaaGreatDoor
