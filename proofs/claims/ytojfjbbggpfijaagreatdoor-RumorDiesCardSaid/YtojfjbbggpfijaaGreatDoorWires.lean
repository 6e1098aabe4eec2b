/- Wires: several texts, joined. A message in memory. -/
import Derived.Test.YtojfjbbggpfijaaGreatDoorCfgs
import Derived.Test.YtojfjbbggpfijaaGreatDoorLib
import Derived.Test.YtojfjbbggpfijaaGreatDoorMarks
namespace Go.Proofs.YtojfjbbggpfijaaGreatDoor
open Go.RowKit Go.Qd
/-- A message. -/
structure MsgV where
  kind : Int
  peer : Int
  hops : Int
  high : Bool
  pa : Option Addr
  pn : Nat
  pc : Nat
  ps : List Int
  number : Int
  sum : Int
  mc : Int
  ms : Int
  key : ByteArray
  ma : Option Addr
  mn : Nat
  mq : Nat
  ea : Option Addr
  en : Nat
  eq : Nat
def MsgV.cells (m : MsgV) : List Value := [.int .i64 m.kind, .int .i64 m.peer, .int .i64 m.hops, .bool m.high, .slice m.pa m.pn m.pc, .int .i64 m.number, .int .u64 m.sum, .int .i64 m.mc, .int .i64 m.ms, .string m.key, .slice m.ma m.mn m.mq, .slice m.ea m.en m.eq]
structure LetV where
  to : Int
  m : MsgV
def LetV.cells (x : LetV) : List Value := .int .i64 x.to :: x.m.cells
def LetV.own (x : LetV) : HP := OwnS 1 x.m.pa x.m.pn x.m.pc (ivs x.m.ps)
def kindM (k : Int) : MsgV := ⟨k, 0, 0, false, none, 0, 0, [], 0, 0, 0, 0, ByteArray.empty, none, 0, 0, none, 0, 0⟩
section
variable {W w : World} {R : List HP} {post : Ending → World → Prop} {b o : Nat}
theorem boxQ {x y : Value} (s : St W w (row b o [x, y] :: R)) : w.cell? ⟨b, o, none⟩ = some x ∧ w.cell? ⟨b, o + 1, none⟩ = some y ∧ w.frozen? ⟨b, o, none⟩ = false ∧ w.frozen? ⟨b, o + 1, none⟩ = false :=
  ⟨s.rowCell (i := 0) rfl, s.rowCell (i := 1) rfl, s.rowFree (i := 0) (by simp), s.rowFree (i := 1) (by simp)⟩

set_option maxRecDepth 100000 in
set_option maxHeartbeats 2000000 in
theorem boxM {B : Nat} {m : MsgV} (s : St W w (row B 0 m.cells :: R)) :
    w.cell? ⟨B, 0, none⟩ = some (.int .i64 m.kind) ∧ w.cell? ⟨B, 1, none⟩ = some (.int .i64 m.peer) ∧ w.cell? ⟨B, 2, none⟩ = some (.int .i64 m.hops) ∧ w.cell? ⟨B, 3, none⟩ = some (.bool m.high) ∧
    w.cell? ⟨B, 4, none⟩ = some (.slice m.pa m.pn m.pc) ∧ w.cell? ⟨B, 5, none⟩ = some (.int .i64 m.number) ∧ w.cell? ⟨B, 6, none⟩ = some (.int .u64 m.sum) ∧ w.cell? ⟨B, 7, none⟩ = some (.int .i64 m.mc) ∧
    w.cell? ⟨B, 8, none⟩ = some (.int .i64 m.ms) ∧ w.cell? ⟨B, 9, none⟩ = some (.string m.key) ∧ w.cell? ⟨B, 10, none⟩ = some (.slice m.ma m.mn m.mq) ∧ w.cell? ⟨B, 11, none⟩ = some (.slice m.ea m.en m.eq) := by
  have f : ∀ i v, m.cells[i]? = some v → w.cell? ⟨B, i, none⟩ = some v := fun i v h => by have := s.rowCell h; rwa [Nat.zero_add] at this
  exact ⟨f 0 _ rfl, f 1 _ rfl, f 2 _ rfl, f 3 _ rfl, f 4 _ rfl, f 5 _ rfl, f 6 _ rfl, f 7 _ rfl, f 8 _ rfl, f 9 _ rfl, f 10 _ rfl, f 11 _ rfl⟩

theorem agg58 : AggT Tryz.prog 62 12 := ⟨⟨_, Tryz.underlying62, rfl⟩, by kernel_rfl⟩
theorem msg_one (m : MsgV) : ∀ u ∈ m.cells, u.oneCell' = true := by
  intro u hu; simp only [MsgV.cells, List.mem_cons, List.not_mem_nil, or_false] at hu
  rcases hu with rfl | rfl | rfl | rfl | rfl | rfl | rfl | rfl | rfl | rfl | rfl | rfl <;> rfl
theorem lg58 {B : Nat} {m : MsgV} (s : St W w (row B 0 m.cells :: R)) : (loadG 62 (.pointer (some ⟨B, 0, none⟩))).run Tryz.prog w = .ok (.agg m.cells.toArray) w := run_loadG agg58 rfl s.rowAll
theorem row1c {v : Value} (s : St W w (row b 0 [v] :: R)) : w.cell? ⟨b, 0, none⟩ = some v := s.rowCell (i := 0) rfl
end
end Go.Proofs.YtojfjbbggpfijaaGreatDoor

/- wire: the kinds' forms. Printed by mkWireA.py. -/
namespace Go.Proofs.YtojfjbbggpfijaaGreatDoor
open Go.RowKit Go.Qd

def formL : List (List Value) := [
  [.string ByteArray.empty, .int .i64 0, .int .i64 0, .int .i64 0, .int .i64 0, .int .i64 0],
  [.string { data := #[106, 111, 105, 110] }, .int .i64 0, .int .i64 0, .int .i64 0, .int .i64 0, .int .i64 0],
  [.string { data := #[102, 111, 114, 119, 97, 114, 100] }, .int .i64 3, .int .i64 0, .int .i64 0, .int .i64 0, .int .i64 0],
  [.string { data := #[110, 101, 105, 103, 104, 98, 111, 114] }, .int .i64 4, .int .i64 0, .int .i64 0, .int .i64 0, .int .i64 0],
  [.string { data := #[97, 99, 99, 101, 112, 116] }, .int .i64 0, .int .i64 0, .int .i64 0, .int .i64 0, .int .i64 0],
  [.string { data := #[114, 101, 102, 117, 115, 101] }, .int .i64 0, .int .i64 0, .int .i64 0, .int .i64 0, .int .i64 0],
  [.string { data := #[112, 97, 114, 116] }, .int .i64 0, .int .i64 0, .int .i64 0, .int .i64 0, .int .i64 0],
  [.string { data := #[115, 104, 117, 102, 102, 108, 101] }, .int .i64 11, .int .i64 0, .int .i64 0, .int .i64 0, .int .i64 0],
  [.string { data := #[115, 119, 97, 112] }, .int .i64 8, .int .i64 0, .int .i64 0, .int .i64 0, .int .i64 0],
  [.string { data := #[98, 101, 97, 116] }, .int .i64 0, .int .i64 0, .int .i64 0, .int .i64 0, .int .i64 0],
  [.string { data := #[103, 111, 115, 115, 105, 112] }, .int .i64 256, .int .i64 0, .int .i64 0, .int .i64 1, .int .i64 1],
  [.string { data := #[104, 97, 118, 101] }, .int .i64 128, .int .i64 1, .int .i64 8, .int .i64 0, .int .i64 0],
  [.string { data := #[103, 114, 97, 102, 116] }, .int .i64 128, .int .i64 1, .int .i64 1, .int .i64 0, .int .i64 0],
  [.string { data := #[112, 114, 117, 110, 101] }, .int .i64 0, .int .i64 0, .int .i64 0, .int .i64 0, .int .i64 0],
  [.string { data := #[114, 117, 109, 111, 114, 115] }, .int .i64 256, .int .i64 0, .int .i64 0, .int .i64 1, .int .i64 8],
  [.string { data := #[101, 99, 104, 111] }, .int .i64 384, .int .i64 0, .int .i64 8, .int .i64 0, .int .i64 8],
  [.string { data := #[99, 104, 101, 99, 107] }, .int .i64 304, .int .i64 0, .int .i64 0, .int .i64 0, .int .i64 8],
  [.string { data := #[109, 97, 116, 99, 104] }, .int .i64 304, .int .i64 0, .int .i64 0, .int .i64 0, .int .i64 8],
  [.string { data := #[112, 101, 101, 108] }, .int .i64 336, .int .i64 0, .int .i64 0, .int .i64 0, .int .i64 8],
  [.string { data := #[112, 105, 108, 101] }, .int .i64 368, .int .i64 0, .int .i64 0, .int .i64 0, .int .i64 8]]
def formC (k : Nat) : List Value := formL.getD k []
def fieldsF (k : Nat) : Int := [0, 0, 3, 4, 0, 0, 0, 11, 8, 0, 256, 128, 128, 0, 256, 384, 304, 304, 336, 368].getD k 0
theorem agg195 : AggT Tryz.prog 182 6 := ⟨⟨_, Tryz.underlying182, rfl⟩, by kernel_rfl⟩
theorem agg193 : AggT Tryz.prog 180 2 := ⟨⟨_, Tryz.underlying180, rfl⟩, by kernel_rfl⟩
theorem zero195 (w : World) : (zeroValue 182).run Tryz.prog w = .ok (.agg [Value.string ByteArray.empty, .int .i64 0, .int .i64 0, .int .i64 0, .int .i64 0, .int .i64 0].toArray) w := by kernel_rfl

section
variable {W w : World} {R : List HP} {post : Ending → World → Prop}

set_option maxRecDepth 100000 in
set_option maxHeartbeats 4000000 in
theorem forms_c (st : St W w R) (K : ∀ B w', St W w' (row B 0 formL.flatten :: R) → post (.returned (.slice (some ⟨B, 0, none⟩) 20 20)) w') : Calls Tryz.prog 122 #[] w post := by
  have HK := hid K; clear K
  go_enter Tryz.func122, Tryz.ntmps122
  go_wp2_with fail
  have s4 : St W ((((w.alloc (.cells #[.int .i64 1, .int .i64 1] 180)).alloc (.cells #[.int .i64 1, .int .i64 8] 180)).alloc (.cells #[.int .i64 0, .int .i64 8] 180)).alloc (.cells formL.flatten.toArray 182)) (row (w.heap.size + 1 + 1 + 1) 0 formL.flatten :: R) := by
    have := (((st.alloc #[.int .i64 1, .int .i64 1] 180).drop.alloc #[.int .i64 1, .int .i64 8] 180).drop.alloc #[.int .i64 0, .int .i64 8] 180).drop.alloc formL.flatten.toArray 182
    simpa using this
  exact HK.out _ _ s4

end

end Go.Proofs.YtojfjbbggpfijaaGreatDoor

/- wire: formOf. -/
namespace Go.Proofs.YtojfjbbggpfijaaGreatDoor
open Go.RowKit Go.Qd

def noForm : List Value := [.string ByteArray.empty, .int .i64 0, .int .i64 0, .int .i64 0, .int .i64 0, .int .i64 0]
theorem formC_len {k : Nat} (h : k < 20) : (formC k).length = 6 := by
  have : ∀ k, k < 20 → (formC k).length = 6 := by decide
  exact this k h
theorem form_drop {k : Nat} (h : k < 20) : formL.flatten.drop (k * 6) = formC k ++ formL.flatten.drop (k * 6 + 6) := by
  match k, h with
  | 0, _ => exact rfl
  | 1, _ => exact rfl
  | 2, _ => exact rfl
  | 3, _ => exact rfl
  | 4, _ => exact rfl
  | 5, _ => exact rfl
  | 6, _ => exact rfl
  | 7, _ => exact rfl
  | 8, _ => exact rfl
  | 9, _ => exact rfl
  | 10, _ => exact rfl
  | 11, _ => exact rfl
  | 12, _ => exact rfl
  | 13, _ => exact rfl
  | 14, _ => exact rfl
  | 15, _ => exact rfl
  | 16, _ => exact rfl
  | 17, _ => exact rfl
  | 18, _ => exact rfl
  | 19, _ => exact rfl
  | n + 20, h => exact absurd h (by omega)
theorem noForm_one : ∀ u ∈ noForm, u.oneCell' = true := by intro u h; simp [noForm] at h; rcases h with h | h <;> subst h <;> rfl
theorem formC_one (k : Nat) : ∀ u ∈ formC k, u.oneCell' = true := by
  rcases Nat.lt_or_ge k 20 with h | h
  · have : ∀ k, k < 20 → ∀ u ∈ formC k, u.oneCell' = true := by decide
    exact this k h
  · have : formC k = [] := by unfold formC; rw [List.getD_eq_getElem?_getD, List.getElem?_eq_none (by exact h)]; rfl
    rw [this]; intro u hu; cases hu

section
variable {W w : World} {R : List HP} {post : Ending → World → Prop}

theorem execOp_load195 (ρ : Operand → Value) (dst : Option Tmp) (a : Operand) (ty : TypeId) (pos : String) (after : Array Edge) (guard : Option (Nat × Bool)) :
    execOp ρ { dst, op := .load 182 a, type := ty, pos, after, guard } = (do pure (.value (← loadG 182 (ρ a)))) := rfl
attribute [local go_sem ↓] execOp_load195

set_option maxRecDepth 100000 in
set_option maxHeartbeats 4000000 in
theorem formOf_yes {k : Nat} (st : St W w R) (h1 : 1 ≤ k) (h2 : k < 20) (K : ∀ w', St W w' R → post (.returned (.tuple #[.agg (formC k).toArray, .bool true])) w') : Calls Tryz.prog 78 #[.int .i64 k] w post := by
  have HK := hid K; clear K
  have HL := hid (formC_len h2)
  have HD := hid (form_drop h2)
  have k1 : (1 : Int) ≤ k := by omega
  have k2 : (k : Int) < 20 := by omega
  go_enter Tryz.func78, Tryz.ntmps78
  go_wp2_with (first
    | (refine wpl_allocA rfl rfl zero195 st ?_; rintro E w1 s1)
    | (go_at_call 122; refine forms_c s1 ?_; rintro B w2 s2; have lg := run_loadG (o := 0 + k * 6) agg195 HL.out (St.rowPart s2 (k * 6) HD.out); rw [Nat.zero_add] at lg)
    | (refine wpl_storeA (vs := formC k) rfl (.tmp 2) (.tmp 18) (by rfl) agg195 (by rfl) (by rfl) HL.out (formC_one k) (St.pick 1 s2) (by simp) ?_; rintro w3 s3))
  have hL := run_loadA agg195 HL.out s3.rowAll
  exact bodyPost_ret (v := .tuple #[.agg (formC k).toArray, .bool true]) (by simp [results, Tryz.results78, asAddr, hL]) rfl (HK.out _ (s3.dropN 2))

set_option maxRecDepth 100000 in
set_option maxHeartbeats 4000000 in
theorem formOf_no {k : Int} (st : St W w R) (h : ¬ (1 ≤ k ∧ k < 20)) (K : ∀ w', St W w' R → post (.returned (.tuple #[.agg noForm.toArray, .bool false])) w') : Calls Tryz.prog 78 #[.int .i64 k] w post := by
  have HK := hid K; clear K
  by_cases h1 : 1 ≤ k
  · have k1 : decide (k < 1) = false := by simp; omega
    have k2 : decide (20 ≤ k) = true := by simp; omega
    clear h h1
    go_enter Tryz.func78, Tryz.ntmps78
    go_wp2_with (first
      | (refine wpl_allocA rfl rfl zero195 st ?_; rintro E w1 s1)
      | (go_at_call 122; refine forms_c s1 ?_; rintro B w2 s2)
      | (refine wpl_build (v := .agg noForm.toArray) rfl (rfl : _ = Op.build 182 _) (by kernel_rfl) ?_)
      | (refine wpl_storeA (vs := noForm) rfl (.tmp 2) (.tmp 14) (by rfl) agg195 (by rfl) (by rfl) rfl noForm_one (St.pick 1 s2) (by simp) ?_; rintro w3 s3))
    have hL := run_loadA agg195 (vs := noForm) rfl s3.rowAll
    exact bodyPost_ret (v := .tuple #[.agg noForm.toArray, .bool false]) (by simp [results, Tryz.results78, asAddr, hL]) rfl (HK.out _ (s3.dropN 2))
  · have k1 : decide (k < 1) = true := by simp; omega
    clear h h1
    go_enter Tryz.func78, Tryz.ntmps78
    go_wp2_with (first
      | (refine wpl_allocA rfl rfl zero195 st ?_; rintro E w1 s1)
      | (go_at_call 122; refine forms_c s1 ?_; rintro B w2 s2)
      | (refine wpl_build (v := .agg noForm.toArray) rfl (rfl : _ = Op.build 182 _) (by kernel_rfl) ?_)
      | (refine wpl_storeA (vs := noForm) rfl (.tmp 2) (.tmp 14) (by rfl) agg195 (by rfl) (by rfl) rfl noForm_one (St.pick 1 s2) (by simp) ?_; rintro w3 s3))
    have hL := run_loadA agg195 (vs := noForm) rfl s3.rowAll
    exact bodyPost_ret (v := .tuple #[.agg noForm.toArray, .bool false]) (by simp [results, Tryz.results78, asAddr, hL]) rfl (HK.out _ (s3.dropN 2))

end

end Go.Proofs.YtojfjbbggpfijaaGreatDoor

/- wire: the seven closures of bare, each clearing a field. -/
namespace Go.Proofs.YtojfjbbggpfijaaGreatDoor
open Go.RowKit Go.Qd

/-- A message with a field cleared. -/
def clearM (i : Nat) (m : MsgV) : MsgV :=
  match i with
  | 0 => { m with peer := 0 }
  | 1 => { m with hops := 0 }
  | 2 => { m with high := false }
  | 3 => { m with pa := none, pn := 0, pc := 0, ps := [] }
  | 4 => { m with number := 0 }
  | 5 => { m with sum := 0 }
  | 6 => { m with mc := 0, ms := 0, key := ByteArray.empty }
  | _ => m
def clearIf (b : Bool) (i : Nat) (m : MsgV) : MsgV := if b = true then clearM i m else m
/-- A kind's field: is the bit set? -/
def bitF (k i : Nat) : Bool := bits .and .i64 (fieldsF k) ((2 ^ i : Nat) : Int) != 0
def bareN (m : MsgV) (k : Nat) : Nat → MsgV
  | 0 => m
  | i + 1 => clearIf (bitF k i) i (bareN m k i)

section
variable {W w : World} {R : List HP} {post : Ending → World → Prop} {b : Nat} {m : MsgV}

theorem boxMf (st : St W w (row b 0 m.cells :: R)) : ∀ i, i < 12 → w.frozen? ⟨b, i, none⟩ = false := fun i h => by
  have := st.rowFree (i := i) (by exact h); rwa [Nat.zero_add] at this

theorem clear0_c (st : St W w (row b 0 m.cells :: R)) (K : ∀ w', St W w' (row b 0 (clearM 0 m).cells :: R) → post (.returned (.tuple #[])) w') : Calls Tryz.prog 126 #[.pointer (some ⟨b, 0, none⟩)] w post := by
  have HK := hid K; clear K
  obtain ⟨g0, g1, g2, g3, g4, g5, g6, g7, g8, g9, g10, g11⟩ := boxM st
  have f1 := boxMf st 1 (by decide)
  go_enter Tryz.func126, Tryz.ntmps126
  go_wp2
  go_end0
  exact HK.out _ (st.rowSet (i := 1) (by simp [MsgV.cells]) (.int .i64 0))

theorem clear1_c (st : St W w (row b 0 m.cells :: R)) (K : ∀ w', St W w' (row b 0 (clearM 1 m).cells :: R) → post (.returned (.tuple #[])) w') : Calls Tryz.prog 127 #[.pointer (some ⟨b, 0, none⟩)] w post := by
  have HK := hid K; clear K
  obtain ⟨g0, g1, g2, g3, g4, g5, g6, g7, g8, g9, g10, g11⟩ := boxM st
  have f1 := boxMf st 2 (by decide)
  go_enter Tryz.func127, Tryz.ntmps127
  go_wp2
  go_end0
  exact HK.out _ (st.rowSet (i := 2) (by simp [MsgV.cells]) (.int .i64 0))

theorem clear2_c (st : St W w (row b 0 m.cells :: R)) (K : ∀ w', St W w' (row b 0 (clearM 2 m).cells :: R) → post (.returned (.tuple #[])) w') : Calls Tryz.prog 128 #[.pointer (some ⟨b, 0, none⟩)] w post := by
  have HK := hid K; clear K
  obtain ⟨g0, g1, g2, g3, g4, g5, g6, g7, g8, g9, g10, g11⟩ := boxM st
  have f1 := boxMf st 3 (by decide)
  go_enter Tryz.func128, Tryz.ntmps128
  go_wp2
  go_end0
  exact HK.out _ (st.rowSet (i := 3) (by simp [MsgV.cells]) (.bool false))

theorem clear3_c (st : St W w (row b 0 m.cells :: R)) (K : ∀ w', St W w' (row b 0 (clearM 3 m).cells :: R) → post (.returned (.tuple #[])) w') : Calls Tryz.prog 129 #[.pointer (some ⟨b, 0, none⟩)] w post := by
  have HK := hid K; clear K
  obtain ⟨g0, g1, g2, g3, g4, g5, g6, g7, g8, g9, g10, g11⟩ := boxM st
  have f1 := boxMf st 4 (by decide)
  go_enter Tryz.func129, Tryz.ntmps129
  go_wp2
  go_end0
  exact HK.out _ (st.rowSet (i := 4) (by simp [MsgV.cells]) (.slice none 0 0))

theorem clear4_c (st : St W w (row b 0 m.cells :: R)) (K : ∀ w', St W w' (row b 0 (clearM 4 m).cells :: R) → post (.returned (.tuple #[])) w') : Calls Tryz.prog 130 #[.pointer (some ⟨b, 0, none⟩)] w post := by
  have HK := hid K; clear K
  obtain ⟨g0, g1, g2, g3, g4, g5, g6, g7, g8, g9, g10, g11⟩ := boxM st
  have f1 := boxMf st 5 (by decide)
  go_enter Tryz.func130, Tryz.ntmps130
  go_wp2
  go_end0
  exact HK.out _ (st.rowSet (i := 5) (by simp [MsgV.cells]) (.int .i64 0))

theorem clear5_c (st : St W w (row b 0 m.cells :: R)) (K : ∀ w', St W w' (row b 0 (clearM 5 m).cells :: R) → post (.returned (.tuple #[])) w') : Calls Tryz.prog 131 #[.pointer (some ⟨b, 0, none⟩)] w post := by
  have HK := hid K; clear K
  obtain ⟨g0, g1, g2, g3, g4, g5, g6, g7, g8, g9, g10, g11⟩ := boxM st
  have f1 := boxMf st 6 (by decide)
  go_enter Tryz.func131, Tryz.ntmps131
  go_wp2
  go_end0
  exact HK.out _ (st.rowSet (i := 6) (by simp [MsgV.cells]) (.int .u64 0))

theorem clear6_c (st : St W w (row b 0 m.cells :: R)) (K : ∀ w', St W w' (row b 0 (clearM 6 m).cells :: R) → post (.returned (.tuple #[])) w') : Calls Tryz.prog 132 #[.pointer (some ⟨b, 0, none⟩)] w post := by
  have HK := hid K; clear K
  obtain ⟨g0, g1, g2, g3, g4, g5, g6, g7, g8, g9, g10, g11⟩ := boxM st
  have f7 := boxMf st 7 (by decide)
  have f8 := boxMf st 8 (by decide)
  have f9 := boxMf st 9 (by decide)
  go_enter Tryz.func132, Tryz.ntmps132
  go_wp2
  go_end0
  exact HK.out _ (((st.rowSet (i := 7) (by simp [MsgV.cells]) (.int .i64 0)).rowSet (i := 8) (by simp [MsgV.cells]) (.int .i64 0)).rowSet (i := 9) (by simp [MsgV.cells]) (.string ByteArray.empty))

end

end Go.Proofs.YtojfjbbggpfijaaGreatDoor

/- wire: bare. -/
namespace Go.Proofs.YtojfjbbggpfijaaGreatDoor
open Go.RowKit Go.Qd

def zeroM : MsgV := ⟨0, 0, 0, false, none, 0, 0, [], 0, 0, 0, 0, ByteArray.empty, none, 0, 0, none, 0, 0⟩
theorem zero58 (w : World) : (zeroValue 62).run Tryz.prog w = .ok (.agg zeroM.cells.toArray) w := by kernel_rfl
def clo (i D : Nat) : Value := .func (.func (126 + i)) #[] #[.pointer (some ⟨D, 0, none⟩)]
def bareTab (D : Nat) : List Value := [.int .i64 1, clo 0 D, .int .i64 2, clo 1 D, .int .i64 4, clo 2 D, .int .i64 8, clo 3 D, .int .i64 16, clo 4 D, .int .i64 32, clo 5 D, .int .i64 64, clo 6 D]
theorem agg228 : AggT Tryz.prog 243 2 := ⟨⟨_, Tryz.underlying243, rfl⟩, by kernel_rfl⟩
theorem zero228 (w : World) : (zeroValue 243).run Tryz.prog w = .ok (.agg [Value.int .i64 0, .nilFunc].toArray) w := by kernel_rfl
theorem clo_one (x : Int) (i D : Nat) : ∀ u ∈ [Value.int .i64 x, clo i D], u.oneCell' = true := by
  intro u hu; simp only [List.mem_cons, List.not_mem_nil, or_false] at hu; rcases hu with rfl | rfl <;> rfl
theorem clearIf_t (i : Nat) (m : MsgV) : clearIf true i m = clearM i m := if_pos rfl
theorem clearIf_f (i : Nat) (m : MsgV) : clearIf false i m = m := if_neg (by decide)
/-- What bare gives. -/
def bareM (m : MsgV) (k : Nat) : MsgV := { bareN m k 7 with ma := none, mn := 0, mq := 0, ea := none, en := 0, eq := 0 }

theorem St.sel2 {W w : World} {R : List HP} {a b : HP} (s : St W w (a :: b :: R)) : St W w (a :: R) := ((St.pick 1 s).drop)
section
variable {W w : World} {R : List HP} {post : Ending → World → Prop} {m : MsgV}

theorem hmf : ∀ fn first cap w, (Instr.makeFunc fn first cap).run Tryz.prog w = .ok (.func fn first cap) w := fun _ _ _ _ => rfl
theorem execOp_load58' (ρ : Operand → Value) (dst : Option Tmp) (a : Operand) (ty : TypeId) (pos : String) (after : Array Edge) (guard : Option (Nat × Bool)) :
    execOp ρ { dst, op := .load 62 a, type := ty, pos, after, guard } = (do pure (.value (← loadG 62 (ρ a)))) := rfl
attribute [local go_sem ↓] execOp_load58'

set_option maxRecDepth 100000 in
set_option maxHeartbeats 4000000 in
theorem bare_c {k : Nat} (_hk : k < 20) (st : St W w R) (K : ∀ w', St W w' R → post (.returned (.agg (bareM m k).cells.toArray)) w') : Calls Tryz.prog 80 #[.agg m.cells.toArray, .int .i64 (fieldsF k)] w post := by
  have HK := hid K; clear K
  have Hm := hmf
  go_enter Tryz.func80, Tryz.ntmps80
  go_wp2_with (first
    | (refine wpl_boxA (vs := m.cells) rfl (.tmp 0) rfl rfl st ?_; rintro T w1 s1)
    | (refine wpl_allocA rfl rfl zero58 s1 ?_; rintro E w2 s2; have lg := lg58 (St.pick 1 s2))
    | (refine wpl_allocA rfl rfl zero58 s2 ?_; rintro D w3 s3)
    | (refine wpl_storeA (vs := m.cells) rfl (.tmp 5) (.tmp 8) (by rfl) agg58 (by rfl) (by rfl) rfl (msg_one m) s3 (by simp [zeroM, MsgV.cells]) ?_; rintro w4 s4))
  have s5 := s4.alloc (bareTab D).toArray 243
  generalize hw5 : w4.alloc (.cells (bareTab D).toArray 243) = w5 at s5
  have eB : w4.alloc (.cells #[.int .i64 1, .func (.func 126) #[] #[.pointer (some ⟨D, 0, none⟩)], .int .i64 2, .func (.func 127) #[] #[.pointer (some ⟨D, 0, none⟩)], .int .i64 4, .func (.func 128) #[] #[.pointer (some ⟨D, 0, none⟩)], .int .i64 8, .func (.func 129) #[] #[.pointer (some ⟨D, 0, none⟩)], .int .i64 16, .func (.func 130) #[] #[.pointer (some ⟨D, 0, none⟩)], .int .i64 32, .func (.func 131) #[] #[.pointer (some ⟨D, 0, none⟩)], .int .i64 64, .func (.func 132) #[] #[.pointer (some ⟨D, 0, none⟩)]] 243) = w5 := hw5
  rw [eB]
  clear hw5 eB lg s1 s2 s3
  generalize w4.heap.size = B at s5 ⊢
  have s6 : St W w5 (row D 0 m.cells :: row B 0 (bareTab D) :: row E 0 zeroM.cells :: row T 0 m.cells :: R) := s5.perm [1]
  clear s4 s5
  go_loopw [25] (fun ii wr => ∃ i : Nat, i ≤ 7 ∧ ii = .int .i64 i ∧ St W wr (row D 0 (bareN m k i).cells :: row B 0 (bareTab D) :: row E 0 zeroM.cells :: row T 0 m.cells :: R)) (fun ii _ => 7 - (intOf ii).toNat)
  case atStart => exact ⟨0, Nat.zero_le _, rfl, s6⟩
  case round =>
    obtain ⟨i, hi, rfl, sr⟩ := hrel
    have sT := St.pick 1 sr
    match i, hi with
    | 0, _ =>
      have c0 : wr.cell? ⟨B, 0, none⟩ = some (.int .i64 1) := by have := sT.rowCell (i := 0) rfl; rwa [Nat.zero_add] at this
      have c1 : wr.cell? ⟨B, 1, none⟩ = some (.func (.func 126) #[] #[.pointer (some ⟨D, 0, none⟩)]) := by have := sT.rowCell (i := 1) rfl; rwa [Nat.zero_add] at this
      clear sT
      have hb : (bits BinOp.and IntKind.i64 (fieldsF k) 1 != 0) = bitF k 0 := rfl
      have hN : bareN m k 1 = clearIf (bitF k 0) 0 (bareN m k 0) := rfl
      obtain ⟨f, hf⟩ : ∃ f, bitF k 0 = f := ⟨_, rfl⟩
      rw [hf] at hb hN
      clear hf
      have HX := hid hN
      clear hN
      cases f with
      | true =>
        go_wp2_with (first
          | (refine wpl_allocA rfl rfl zero228 sr ?_; rintro X w7 s7)
          | (refine wpl_storeA (vs := [.int .i64 1, clo 0 D]) rfl (.tmp 7) (.tmp 28) (by rfl) agg228 (by rfl) (by rfl) rfl (clo_one _ _ _) s7 (by simp) ?_; rintro w8 s8; obtain ⟨e0, e1, _, _⟩ := boxQ s8; unfold clo at e1)
          | (go_at_call 126; refine clear0_c (St.pick 1 s8) ?_; rintro w6 s6))
        go_roundw
        case rel => exact ⟨1, by omega, rfl, by rw [HX.out, clearIf_t]; exact St.sel2 s6⟩
        case measure => simp [intOf]
      | false =>
        go_wp2_with (first
          | (refine wpl_allocA rfl rfl zero228 sr ?_; rintro X w7 s7)
          | (refine wpl_storeA (vs := [.int .i64 1, clo 0 D]) rfl (.tmp 7) (.tmp 28) (by rfl) agg228 (by rfl) (by rfl) rfl (clo_one _ _ _) s7 (by simp) ?_; rintro w8 s8; obtain ⟨e0, e1, _, _⟩ := boxQ s8; unfold clo at e1))
        go_roundw
        case rel => exact ⟨1, by omega, rfl, by rw [HX.out, clearIf_f]; exact St.drop s8⟩
        case measure => simp [intOf]
    | 1, _ =>
      have c0 : wr.cell? ⟨B, 2, none⟩ = some (.int .i64 2) := by have := sT.rowCell (i := 2) rfl; rwa [Nat.zero_add] at this
      have c1 : wr.cell? ⟨B, 3, none⟩ = some (.func (.func 127) #[] #[.pointer (some ⟨D, 0, none⟩)]) := by have := sT.rowCell (i := 3) rfl; rwa [Nat.zero_add] at this
      clear sT
      have hb : (bits BinOp.and IntKind.i64 (fieldsF k) 2 != 0) = bitF k 1 := rfl
      have hN : bareN m k 2 = clearIf (bitF k 1) 1 (bareN m k 1) := rfl
      obtain ⟨f, hf⟩ : ∃ f, bitF k 1 = f := ⟨_, rfl⟩
      rw [hf] at hb hN
      clear hf
      have HX := hid hN
      clear hN
      cases f with
      | true =>
        go_wp2_with (first
          | (refine wpl_allocA rfl rfl zero228 sr ?_; rintro X w7 s7)
          | (refine wpl_storeA (vs := [.int .i64 2, clo 1 D]) rfl (.tmp 7) (.tmp 28) (by rfl) agg228 (by rfl) (by rfl) rfl (clo_one _ _ _) s7 (by simp) ?_; rintro w8 s8; obtain ⟨e0, e1, _, _⟩ := boxQ s8; unfold clo at e1)
          | (go_at_call 127; refine clear1_c (St.pick 1 s8) ?_; rintro w6 s6))
        go_roundw
        case rel => exact ⟨2, by omega, rfl, by rw [HX.out, clearIf_t]; exact St.sel2 s6⟩
        case measure => simp [intOf]
      | false =>
        go_wp2_with (first
          | (refine wpl_allocA rfl rfl zero228 sr ?_; rintro X w7 s7)
          | (refine wpl_storeA (vs := [.int .i64 2, clo 1 D]) rfl (.tmp 7) (.tmp 28) (by rfl) agg228 (by rfl) (by rfl) rfl (clo_one _ _ _) s7 (by simp) ?_; rintro w8 s8; obtain ⟨e0, e1, _, _⟩ := boxQ s8; unfold clo at e1))
        go_roundw
        case rel => exact ⟨2, by omega, rfl, by rw [HX.out, clearIf_f]; exact St.drop s8⟩
        case measure => simp [intOf]
    | 2, _ =>
      have c0 : wr.cell? ⟨B, 4, none⟩ = some (.int .i64 4) := by have := sT.rowCell (i := 4) rfl; rwa [Nat.zero_add] at this
      have c1 : wr.cell? ⟨B, 5, none⟩ = some (.func (.func 128) #[] #[.pointer (some ⟨D, 0, none⟩)]) := by have := sT.rowCell (i := 5) rfl; rwa [Nat.zero_add] at this
      clear sT
      have hb : (bits BinOp.and IntKind.i64 (fieldsF k) 4 != 0) = bitF k 2 := rfl
      have hN : bareN m k 3 = clearIf (bitF k 2) 2 (bareN m k 2) := rfl
      obtain ⟨f, hf⟩ : ∃ f, bitF k 2 = f := ⟨_, rfl⟩
      rw [hf] at hb hN
      clear hf
      have HX := hid hN
      clear hN
      cases f with
      | true =>
        go_wp2_with (first
          | (refine wpl_allocA rfl rfl zero228 sr ?_; rintro X w7 s7)
          | (refine wpl_storeA (vs := [.int .i64 4, clo 2 D]) rfl (.tmp 7) (.tmp 28) (by rfl) agg228 (by rfl) (by rfl) rfl (clo_one _ _ _) s7 (by simp) ?_; rintro w8 s8; obtain ⟨e0, e1, _, _⟩ := boxQ s8; unfold clo at e1)
          | (go_at_call 128; refine clear2_c (St.pick 1 s8) ?_; rintro w6 s6))
        go_roundw
        case rel => exact ⟨3, by omega, rfl, by rw [HX.out, clearIf_t]; exact St.sel2 s6⟩
        case measure => simp [intOf]
      | false =>
        go_wp2_with (first
          | (refine wpl_allocA rfl rfl zero228 sr ?_; rintro X w7 s7)
          | (refine wpl_storeA (vs := [.int .i64 4, clo 2 D]) rfl (.tmp 7) (.tmp 28) (by rfl) agg228 (by rfl) (by rfl) rfl (clo_one _ _ _) s7 (by simp) ?_; rintro w8 s8; obtain ⟨e0, e1, _, _⟩ := boxQ s8; unfold clo at e1))
        go_roundw
        case rel => exact ⟨3, by omega, rfl, by rw [HX.out, clearIf_f]; exact St.drop s8⟩
        case measure => simp [intOf]
    | 3, _ =>
      have c0 : wr.cell? ⟨B, 6, none⟩ = some (.int .i64 8) := by have := sT.rowCell (i := 6) rfl; rwa [Nat.zero_add] at this
      have c1 : wr.cell? ⟨B, 7, none⟩ = some (.func (.func 129) #[] #[.pointer (some ⟨D, 0, none⟩)]) := by have := sT.rowCell (i := 7) rfl; rwa [Nat.zero_add] at this
      clear sT
      have hb : (bits BinOp.and IntKind.i64 (fieldsF k) 8 != 0) = bitF k 3 := rfl
      have hN : bareN m k 4 = clearIf (bitF k 3) 3 (bareN m k 3) := rfl
      obtain ⟨f, hf⟩ : ∃ f, bitF k 3 = f := ⟨_, rfl⟩
      rw [hf] at hb hN
      clear hf
      have HX := hid hN
      clear hN
      cases f with
      | true =>
        go_wp2_with (first
          | (refine wpl_allocA rfl rfl zero228 sr ?_; rintro X w7 s7)
          | (refine wpl_storeA (vs := [.int .i64 8, clo 3 D]) rfl (.tmp 7) (.tmp 28) (by rfl) agg228 (by rfl) (by rfl) rfl (clo_one _ _ _) s7 (by simp) ?_; rintro w8 s8; obtain ⟨e0, e1, _, _⟩ := boxQ s8; unfold clo at e1)
          | (go_at_call 129; refine clear3_c (St.pick 1 s8) ?_; rintro w6 s6))
        go_roundw
        case rel => exact ⟨4, by omega, rfl, by rw [HX.out, clearIf_t]; exact St.sel2 s6⟩
        case measure => simp [intOf]
      | false =>
        go_wp2_with (first
          | (refine wpl_allocA rfl rfl zero228 sr ?_; rintro X w7 s7)
          | (refine wpl_storeA (vs := [.int .i64 8, clo 3 D]) rfl (.tmp 7) (.tmp 28) (by rfl) agg228 (by rfl) (by rfl) rfl (clo_one _ _ _) s7 (by simp) ?_; rintro w8 s8; obtain ⟨e0, e1, _, _⟩ := boxQ s8; unfold clo at e1))
        go_roundw
        case rel => exact ⟨4, by omega, rfl, by rw [HX.out, clearIf_f]; exact St.drop s8⟩
        case measure => simp [intOf]
    | 4, _ =>
      have c0 : wr.cell? ⟨B, 8, none⟩ = some (.int .i64 16) := by have := sT.rowCell (i := 8) rfl; rwa [Nat.zero_add] at this
      have c1 : wr.cell? ⟨B, 9, none⟩ = some (.func (.func 130) #[] #[.pointer (some ⟨D, 0, none⟩)]) := by have := sT.rowCell (i := 9) rfl; rwa [Nat.zero_add] at this
      clear sT
      have hb : (bits BinOp.and IntKind.i64 (fieldsF k) 16 != 0) = bitF k 4 := rfl
      have hN : bareN m k 5 = clearIf (bitF k 4) 4 (bareN m k 4) := rfl
      obtain ⟨f, hf⟩ : ∃ f, bitF k 4 = f := ⟨_, rfl⟩
      rw [hf] at hb hN
      clear hf
      have HX := hid hN
      clear hN
      cases f with
      | true =>
        go_wp2_with (first
          | (refine wpl_allocA rfl rfl zero228 sr ?_; rintro X w7 s7)
          | (refine wpl_storeA (vs := [.int .i64 16, clo 4 D]) rfl (.tmp 7) (.tmp 28) (by rfl) agg228 (by rfl) (by rfl) rfl (clo_one _ _ _) s7 (by simp) ?_; rintro w8 s8; obtain ⟨e0, e1, _, _⟩ := boxQ s8; unfold clo at e1)
          | (go_at_call 130; refine clear4_c (St.pick 1 s8) ?_; rintro w6 s6))
        go_roundw
        case rel => exact ⟨5, by omega, rfl, by rw [HX.out, clearIf_t]; exact St.sel2 s6⟩
        case measure => simp [intOf]
      | false =>
        go_wp2_with (first
          | (refine wpl_allocA rfl rfl zero228 sr ?_; rintro X w7 s7)
          | (refine wpl_storeA (vs := [.int .i64 16, clo 4 D]) rfl (.tmp 7) (.tmp 28) (by rfl) agg228 (by rfl) (by rfl) rfl (clo_one _ _ _) s7 (by simp) ?_; rintro w8 s8; obtain ⟨e0, e1, _, _⟩ := boxQ s8; unfold clo at e1))
        go_roundw
        case rel => exact ⟨5, by omega, rfl, by rw [HX.out, clearIf_f]; exact St.drop s8⟩
        case measure => simp [intOf]
    | 5, _ =>
      have c0 : wr.cell? ⟨B, 10, none⟩ = some (.int .i64 32) := by have := sT.rowCell (i := 10) rfl; rwa [Nat.zero_add] at this
      have c1 : wr.cell? ⟨B, 11, none⟩ = some (.func (.func 131) #[] #[.pointer (some ⟨D, 0, none⟩)]) := by have := sT.rowCell (i := 11) rfl; rwa [Nat.zero_add] at this
      clear sT
      have hb : (bits BinOp.and IntKind.i64 (fieldsF k) 32 != 0) = bitF k 5 := rfl
      have hN : bareN m k 6 = clearIf (bitF k 5) 5 (bareN m k 5) := rfl
      obtain ⟨f, hf⟩ : ∃ f, bitF k 5 = f := ⟨_, rfl⟩
      rw [hf] at hb hN
      clear hf
      have HX := hid hN
      clear hN
      cases f with
      | true =>
        go_wp2_with (first
          | (refine wpl_allocA rfl rfl zero228 sr ?_; rintro X w7 s7)
          | (refine wpl_storeA (vs := [.int .i64 32, clo 5 D]) rfl (.tmp 7) (.tmp 28) (by rfl) agg228 (by rfl) (by rfl) rfl (clo_one _ _ _) s7 (by simp) ?_; rintro w8 s8; obtain ⟨e0, e1, _, _⟩ := boxQ s8; unfold clo at e1)
          | (go_at_call 131; refine clear5_c (St.pick 1 s8) ?_; rintro w6 s6))
        go_roundw
        case rel => exact ⟨6, by omega, rfl, by rw [HX.out, clearIf_t]; exact St.sel2 s6⟩
        case measure => simp [intOf]
      | false =>
        go_wp2_with (first
          | (refine wpl_allocA rfl rfl zero228 sr ?_; rintro X w7 s7)
          | (refine wpl_storeA (vs := [.int .i64 32, clo 5 D]) rfl (.tmp 7) (.tmp 28) (by rfl) agg228 (by rfl) (by rfl) rfl (clo_one _ _ _) s7 (by simp) ?_; rintro w8 s8; obtain ⟨e0, e1, _, _⟩ := boxQ s8; unfold clo at e1))
        go_roundw
        case rel => exact ⟨6, by omega, rfl, by rw [HX.out, clearIf_f]; exact St.drop s8⟩
        case measure => simp [intOf]
    | 6, _ =>
      have c0 : wr.cell? ⟨B, 12, none⟩ = some (.int .i64 64) := by have := sT.rowCell (i := 12) rfl; rwa [Nat.zero_add] at this
      have c1 : wr.cell? ⟨B, 13, none⟩ = some (.func (.func 132) #[] #[.pointer (some ⟨D, 0, none⟩)]) := by have := sT.rowCell (i := 13) rfl; rwa [Nat.zero_add] at this
      clear sT
      have hb : (bits BinOp.and IntKind.i64 (fieldsF k) 64 != 0) = bitF k 6 := rfl
      have hN : bareN m k 7 = clearIf (bitF k 6) 6 (bareN m k 6) := rfl
      obtain ⟨f, hf⟩ : ∃ f, bitF k 6 = f := ⟨_, rfl⟩
      rw [hf] at hb hN
      clear hf
      have HX := hid hN
      clear hN
      cases f with
      | true =>
        go_wp2_with (first
          | (refine wpl_allocA rfl rfl zero228 sr ?_; rintro X w7 s7)
          | (refine wpl_storeA (vs := [.int .i64 64, clo 6 D]) rfl (.tmp 7) (.tmp 28) (by rfl) agg228 (by rfl) (by rfl) rfl (clo_one _ _ _) s7 (by simp) ?_; rintro w8 s8; obtain ⟨e0, e1, _, _⟩ := boxQ s8; unfold clo at e1)
          | (go_at_call 132; refine clear6_c (St.pick 1 s8) ?_; rintro w6 s6))
        go_roundw
        case rel => exact ⟨7, by omega, rfl, by rw [HX.out, clearIf_t]; exact St.sel2 s6⟩
        case measure => simp [intOf]
      | false =>
        go_wp2_with (first
          | (refine wpl_allocA rfl rfl zero228 sr ?_; rintro X w7 s7)
          | (refine wpl_storeA (vs := [.int .i64 64, clo 6 D]) rfl (.tmp 7) (.tmp 28) (by rfl) agg228 (by rfl) (by rfl) rfl (clo_one _ _ _) s7 (by simp) ?_; rintro w8 s8; obtain ⟨e0, e1, _, _⟩ := boxQ s8; unfold clo at e1))
        go_roundw
        case rel => exact ⟨7, by omega, rfl, by rw [HX.out, clearIf_f]; exact St.drop s8⟩
        case measure => simp [intOf]
    | 7, _ =>
      clear sT
      have d10 := boxMf sr 10 (by decide)
      have d11 := boxMf sr 11 (by decide)
      obtain ⟨g0, g1, g2, g3, g4, g5, g6, g7, g8, g9, g10, g11⟩ := boxM sr
      have s9 : St W ((wr.setCell ⟨D, 10, none⟩ (.slice none 0 0)).setCell ⟨D, 11, none⟩ (.slice none 0 0)) (row D 0 (bareM m k).cells :: row B 0 (bareTab D) :: row E 0 zeroM.cells :: row T 0 m.cells :: R) := (sr.rowSet (i := 10) (by simp [MsgV.cells]) (.slice none 0 0)).rowSet (i := 11) (by simp [MsgV.cells]) (.slice none 0 0)
      have lg9 := lg58 s9
      go_wp2_with (refine wpl_storeA (vs := (bareM m k).cells) rfl (.tmp 4) (.tmp 40) (by rfl) agg58 (by rfl) (by rfl) rfl (msg_one _) (St.pick 2 s9) (by simp [zeroM, MsgV.cells]) ?_; rintro w8 s8)
      have hL := run_loadA agg58 (vs := (bareM m k).cells) rfl s8.rowAll
      exact bodyPost_ret (v := .agg (bareM m k).cells.toArray) (by simp [results, Tryz.results80, asAddr, hL, Act.put]) rfl (HK.out _ (s8.dropN 4))
    | n + 8, h => exact absurd h (by omega)
end

end Go.Proofs.YtojfjbbggpfijaaGreatDoor

/- wire: node, Equal with nothing, Same with a bare message. -/
namespace Go.Proofs.YtojfjbbggpfijaaGreatDoor
open Go.RowKit Go.Qd

def wnodeB (n : Int) : Bool := decide (0 ≤ n) && decide (n < 12)
theorem agg54 : AggT Tryz.prog 59 3 := ⟨⟨_, Tryz.underlying59, rfl⟩, by kernel_rfl⟩

section
variable {W w : World} {R : List HP} {post : Ending → World → Prop} {m : MsgV}

theorem wnode_c {n : Int} (K : post (.returned (.bool (wnodeB n))) w) : Calls Tryz.prog 81 #[.int .i64 n] w post := by
  have HK := hid K; clear K
  by_cases h0 : 0 ≤ n
  · have e : wnodeB n = decide (n < 12) := by unfold wnodeB; rw [decide_eq_true h0, Bool.true_and]
    rw [e] at HK
    clear e
    have h1 : decide (0 ≤ n) = true := decide_eq_true h0
    clear h0
    go_enter Tryz.func81, Tryz.ntmps81
    go_wp2
    exact HK.out
  · have e : wnodeB n = false := by unfold wnodeB; rw [decide_eq_false h0, Bool.false_and]
    rw [e] at HK
    clear e
    have h1 : decide (0 ≤ n) = false := decide_eq_false h0
    clear h0
    go_enter Tryz.func81, Tryz.ntmps81
    go_wp2
    exact HK.out

theorem equal170_c {a : Option Addr} {n c : Nat} (K : post (.returned (.bool (decide (n = 0)))) w) : Calls Tryz.prog 123 #[.slice a n c, .slice none 0 0] w post := by
  have HK := hid K; clear K
  by_cases h : n = 0
  · subst h
    go_enter Tryz.func123, Tryz.ntmps123
    go_wp2_with fail
    go_loopw [13] (fun ii wr => ii = .int .i64 0 ∧ wr = w) (fun _ _ => 0)
    case atStart => exact ⟨rfl, rfl⟩
    case round =>
      obtain ⟨rfl, rfl⟩ := hrel
      go_wp2_with fail
      exact HK.out
  · have hn : ¬ ((n : Int) = 0) := by omega
    rw [decide_eq_false h] at HK
    clear h
    go_enter Tryz.func123, Tryz.ntmps123
    go_wp2
    exact HK.out

theorem equal171_c (K : post (.returned (.bool true)) w) : Calls Tryz.prog 124 #[.slice none 0 0, .slice none 0 0] w post := by
  have HK := hid K; clear K
  go_enter Tryz.func124, Tryz.ntmps124
  go_wp2_with fail
  go_loopw [13] (fun ii wr => ii = .int .i64 0 ∧ wr = w) (fun _ _ => 0)
  case atStart => exact ⟨rfl, rfl⟩
  case round =>
    obtain ⟨rfl, rfl⟩ := hrel
    go_wp2_with fail
    exact HK.out

theorem equal172_c (K : post (.returned (.bool true)) w) : Calls Tryz.prog 125 #[.slice none 0 0, .slice none 0 0] w post := by
  have HK := hid K; clear K
  go_enter Tryz.func125, Tryz.ntmps125
  go_wp2_with fail
  go_loopw [13] (fun ii wr => ii = .int .i64 0 ∧ wr = w) (fun _ _ => 0)
  case atStart => exact ⟨rfl, rfl⟩
  case round =>
    obtain ⟨rfl, rfl⟩ := hrel
    go_wp2_with fail
    exact HK.out

end
section
variable {W w : World} {R : List HP} {post : Ending → World → Prop} {m : MsgV}
attribute [local go_sem ↓] execOp_loadAny

theorem run_load1 {t : TypeId} {w : World} {B o : Nat} {v : Value} (hg : (isAgg t).run Tryz.prog w = .ok false w) (h : w.cell? ⟨B, o, none⟩ = some v) : (loadG t (.pointer (some ⟨B, o, none⟩))).run Tryz.prog w = .ok v w := by
  unfold loadG
  simp [go_sem, h, hg, Instr.loadAt]
theorem msgL {T : Nat} {m : MsgV} (s : St W w (row T 0 m.cells :: R)) :
    (loadG 3 (.pointer (some ⟨T, 0, none⟩))).run Tryz.prog w = .ok (.int .i64 m.kind) w ∧ (loadG 3 (.pointer (some ⟨T, 1, none⟩))).run Tryz.prog w = .ok (.int .i64 m.peer) w ∧
    (loadG 3 (.pointer (some ⟨T, 2, none⟩))).run Tryz.prog w = .ok (.int .i64 m.hops) w ∧ (loadG 4 (.pointer (some ⟨T, 3, none⟩))).run Tryz.prog w = .ok (.bool m.high) w ∧
    (loadG 24 (.pointer (some ⟨T, 4, none⟩))).run Tryz.prog w = .ok (.slice m.pa m.pn m.pc) w ∧ (loadG 3 (.pointer (some ⟨T, 5, none⟩))).run Tryz.prog w = .ok (.int .i64 m.number) w ∧
    (loadG 44 (.pointer (some ⟨T, 6, none⟩))).run Tryz.prog w = .ok (.int .u64 m.sum) w ∧ (loadG 59 (.pointer (some ⟨T, 7, none⟩))).run Tryz.prog w = .ok (.agg #[.int .i64 m.mc, .int .i64 m.ms, .string m.key]) w ∧
    (loadG 60 (.pointer (some ⟨T, 10, none⟩))).run Tryz.prog w = .ok (.slice m.ma m.mn m.mq) w ∧ (loadG 54 (.pointer (some ⟨T, 11, none⟩))).run Tryz.prog w = .ok (.slice m.ea m.en m.eq) w := by
  obtain ⟨c0, c1, c2, c3, c4, c5, c6, c7, c8, c9, c10, c11⟩ := boxM s
  refine ⟨run_load1 (by kernel_rfl) c0, run_load1 (by kernel_rfl) c1, run_load1 (by kernel_rfl) c2, run_load1 (by kernel_rfl) c3, run_load1 (by kernel_rfl) c4, run_load1 (by kernel_rfl) c5, run_load1 (by kernel_rfl) c6, ?_, run_load1 (by kernel_rfl) c10, run_load1 (by kernel_rfl) c11⟩
  have h := run_loadG (o := 0 + 7) agg54 (vs := [.int .i64 m.mc, .int .i64 m.ms, .string m.key]) rfl (St.rowPart s 7 (xs := [.int .i64 m.mc, .int .i64 m.ms, .string m.key]) (ys := [.slice m.ma m.mn m.mq, .slice m.ea m.en m.eq]) rfl)
  exact h

end

/-- Is a message but its kind, without marks and entries, the bare one of a kind? -/
def sameB (m : MsgV) (k : Int) : Bool := (m.kind == k) && ((m.peer == 0) && ((m.hops == 0) && ((m.high == false) && ((m.number == 0) && ((m.sum == 0) && (decide (m.mc = 0) && (decide (m.ms = 0) && (decide (m.key.toList = []) && decide (m.pn = 0)))))))))

section
variable {W w : World} {R : List HP} {post : Ending → World → Prop} {m : MsgV}
attribute [local go_sem ↓] execOp_loadAny

set_option maxRecDepth 100000 in
set_option maxHeartbeats 8000000 in
theorem wsame_c {k : Int} (hz : m.ma = none ∧ m.mn = 0 ∧ m.mq = 0 ∧ m.ea = none ∧ m.en = 0 ∧ m.eq = 0) (st : St W w R) (K : ∀ w', St W w' R → post (.returned (.bool (sameB m k))) w') : Calls Tryz.prog 79 #[.agg m.cells.toArray, .agg (kindM k).cells.toArray] w post := by
  obtain ⟨kind, peer, hops, high, pa, pn, pc, ps, number, sum, mc, ms, key, ma, mn, mq, ea, en, eq⟩ := m
  simp only at hz
  obtain ⟨rfl, rfl, rfl, rfl, rfl, rfl⟩ := hz
  simp only [sameB] at K
  obtain ⟨m, hm⟩ : ∃ m : MsgV, (⟨kind, peer, hops, high, pa, pn, pc, ps, number, sum, mc, ms, key, none, 0, 0, none, 0, 0⟩ : MsgV) = m := ⟨_, rfl⟩
  have HM := hid hm
  rw [hm]
  clear hm
  obtain ⟨b0, e0⟩ : ∃ b, (kind == k) = b := ⟨_, rfl⟩
  rw [e0] at K
  cases b0 with
  | false =>
    simp only [Bool.false_and] at K
    have HK := hid K; clear K
    go_enter Tryz.func79, Tryz.ntmps79
    go_wp2_with (first
      | (replace st := hid st; refine wpl_boxA (vs := m.cells) rfl (.tmp 0) rfl rfl st.out ?_; rintro T w1 s1; clear st)
      | (replace s1 := hid s1; refine wpl_boxA (vs := (kindM k).cells) rfl (.tmp 1) rfl rfl s1.out ?_; rintro U w2 s2; clear s1; obtain ⟨l0, l1, l2, l3, l4, l5, l6, l7, l8, l9⟩ := msgL s2; obtain ⟨j0, j1, j2, j3, j4, j5, j6, j7, j8, j9⟩ := msgL (St.pick 1 s2); simp only [kindM] at l0 l1 l2 l3 l4 l5 l6 l7 l8 l9; simp only [← HM.out] at j0 j1 j2 j3 j4 j5 j6 j7 j8 j9))
    exact HK.out _ (s2.dropN 2)
  | true =>
    obtain ⟨b1, e1⟩ : ∃ b, (peer == 0) = b := ⟨_, rfl⟩
    rw [e1] at K
    cases b1 with
    | false =>
      simp only [Bool.false_and, Bool.true_and] at K
      have HK := hid K; clear K
      go_enter Tryz.func79, Tryz.ntmps79
      go_wp2_with (first
        | (replace st := hid st; refine wpl_boxA (vs := m.cells) rfl (.tmp 0) rfl rfl st.out ?_; rintro T w1 s1; clear st)
        | (replace s1 := hid s1; refine wpl_boxA (vs := (kindM k).cells) rfl (.tmp 1) rfl rfl s1.out ?_; rintro U w2 s2; clear s1; obtain ⟨l0, l1, l2, l3, l4, l5, l6, l7, l8, l9⟩ := msgL s2; obtain ⟨j0, j1, j2, j3, j4, j5, j6, j7, j8, j9⟩ := msgL (St.pick 1 s2); simp only [kindM] at l0 l1 l2 l3 l4 l5 l6 l7 l8 l9; simp only [← HM.out] at j0 j1 j2 j3 j4 j5 j6 j7 j8 j9))
      exact HK.out _ (s2.dropN 2)
    | true =>
      obtain ⟨b2, e2⟩ : ∃ b, (hops == 0) = b := ⟨_, rfl⟩
      rw [e2] at K
      cases b2 with
      | false =>
        simp only [Bool.false_and, Bool.true_and] at K
        have HK := hid K; clear K
        go_enter Tryz.func79, Tryz.ntmps79
        go_wp2_with (first
          | (replace st := hid st; refine wpl_boxA (vs := m.cells) rfl (.tmp 0) rfl rfl st.out ?_; rintro T w1 s1; clear st)
          | (replace s1 := hid s1; refine wpl_boxA (vs := (kindM k).cells) rfl (.tmp 1) rfl rfl s1.out ?_; rintro U w2 s2; clear s1; obtain ⟨l0, l1, l2, l3, l4, l5, l6, l7, l8, l9⟩ := msgL s2; obtain ⟨j0, j1, j2, j3, j4, j5, j6, j7, j8, j9⟩ := msgL (St.pick 1 s2); simp only [kindM] at l0 l1 l2 l3 l4 l5 l6 l7 l8 l9; simp only [← HM.out] at j0 j1 j2 j3 j4 j5 j6 j7 j8 j9))
        exact HK.out _ (s2.dropN 2)
      | true =>
        obtain ⟨b3, e3⟩ : ∃ b, (high == false) = b := ⟨_, rfl⟩
        rw [e3] at K
        cases b3 with
        | false =>
          simp only [Bool.false_and, Bool.true_and] at K
          have HK := hid K; clear K
          go_enter Tryz.func79, Tryz.ntmps79
          go_wp2_with (first
            | (replace st := hid st; refine wpl_boxA (vs := m.cells) rfl (.tmp 0) rfl rfl st.out ?_; rintro T w1 s1; clear st)
            | (replace s1 := hid s1; refine wpl_boxA (vs := (kindM k).cells) rfl (.tmp 1) rfl rfl s1.out ?_; rintro U w2 s2; clear s1; obtain ⟨l0, l1, l2, l3, l4, l5, l6, l7, l8, l9⟩ := msgL s2; obtain ⟨j0, j1, j2, j3, j4, j5, j6, j7, j8, j9⟩ := msgL (St.pick 1 s2); simp only [kindM] at l0 l1 l2 l3 l4 l5 l6 l7 l8 l9; simp only [← HM.out] at j0 j1 j2 j3 j4 j5 j6 j7 j8 j9))
          exact HK.out _ (s2.dropN 2)
        | true =>
          obtain ⟨b4, e4⟩ : ∃ b, (number == 0) = b := ⟨_, rfl⟩
          rw [e4] at K
          cases b4 with
          | false =>
            simp only [Bool.false_and, Bool.true_and] at K
            have HK := hid K; clear K
            go_enter Tryz.func79, Tryz.ntmps79
            go_wp2_with (first
              | (replace st := hid st; refine wpl_boxA (vs := m.cells) rfl (.tmp 0) rfl rfl st.out ?_; rintro T w1 s1; clear st)
              | (replace s1 := hid s1; refine wpl_boxA (vs := (kindM k).cells) rfl (.tmp 1) rfl rfl s1.out ?_; rintro U w2 s2; clear s1; obtain ⟨l0, l1, l2, l3, l4, l5, l6, l7, l8, l9⟩ := msgL s2; obtain ⟨j0, j1, j2, j3, j4, j5, j6, j7, j8, j9⟩ := msgL (St.pick 1 s2); simp only [kindM] at l0 l1 l2 l3 l4 l5 l6 l7 l8 l9; simp only [← HM.out] at j0 j1 j2 j3 j4 j5 j6 j7 j8 j9))
            exact HK.out _ (s2.dropN 2)
          | true =>
            obtain ⟨b5, e5⟩ : ∃ b, (sum == 0) = b := ⟨_, rfl⟩
            rw [e5] at K
            cases b5 with
            | false =>
              simp only [Bool.false_and, Bool.true_and] at K
              have HK := hid K; clear K
              go_enter Tryz.func79, Tryz.ntmps79
              go_wp2_with (first
                | (replace st := hid st; refine wpl_boxA (vs := m.cells) rfl (.tmp 0) rfl rfl st.out ?_; rintro T w1 s1; clear st)
                | (replace s1 := hid s1; refine wpl_boxA (vs := (kindM k).cells) rfl (.tmp 1) rfl rfl s1.out ?_; rintro U w2 s2; clear s1; obtain ⟨l0, l1, l2, l3, l4, l5, l6, l7, l8, l9⟩ := msgL s2; obtain ⟨j0, j1, j2, j3, j4, j5, j6, j7, j8, j9⟩ := msgL (St.pick 1 s2); simp only [kindM] at l0 l1 l2 l3 l4 l5 l6 l7 l8 l9; simp only [← HM.out] at j0 j1 j2 j3 j4 j5 j6 j7 j8 j9))
              exact HK.out _ (s2.dropN 2)
            | true =>
              by_cases e6 : ¬ (mc = 0)
              · rw [decide_eq_false e6] at K
                simp only [Bool.false_and, Bool.true_and] at K
                have HK := hid K; clear K
                go_enter Tryz.func79, Tryz.ntmps79
                go_wp2_with (first
                  | (replace st := hid st; refine wpl_boxA (vs := m.cells) rfl (.tmp 0) rfl rfl st.out ?_; rintro T w1 s1; clear st)
                  | (replace s1 := hid s1; refine wpl_boxA (vs := (kindM k).cells) rfl (.tmp 1) rfl rfl s1.out ?_; rintro U w2 s2; clear s1; obtain ⟨l0, l1, l2, l3, l4, l5, l6, l7, l8, l9⟩ := msgL s2; obtain ⟨j0, j1, j2, j3, j4, j5, j6, j7, j8, j9⟩ := msgL (St.pick 1 s2); simp only [kindM] at l0 l1 l2 l3 l4 l5 l6 l7 l8 l9; simp only [← HM.out] at j0 j1 j2 j3 j4 j5 j6 j7 j8 j9))
                exact HK.out _ (s2.dropN 2)
              replace e6 := Classical.not_not.1 e6
              rw [decide_eq_true e6] at K
              by_cases e7 : ¬ (ms = 0)
              · rw [decide_eq_false e7] at K
                simp only [Bool.false_and, Bool.true_and] at K
                have HK := hid K; clear K
                go_enter Tryz.func79, Tryz.ntmps79
                go_wp2_with (first
                  | (replace st := hid st; refine wpl_boxA (vs := m.cells) rfl (.tmp 0) rfl rfl st.out ?_; rintro T w1 s1; clear st)
                  | (replace s1 := hid s1; refine wpl_boxA (vs := (kindM k).cells) rfl (.tmp 1) rfl rfl s1.out ?_; rintro U w2 s2; clear s1; obtain ⟨l0, l1, l2, l3, l4, l5, l6, l7, l8, l9⟩ := msgL s2; obtain ⟨j0, j1, j2, j3, j4, j5, j6, j7, j8, j9⟩ := msgL (St.pick 1 s2); simp only [kindM] at l0 l1 l2 l3 l4 l5 l6 l7 l8 l9; simp only [← HM.out] at j0 j1 j2 j3 j4 j5 j6 j7 j8 j9))
                exact HK.out _ (s2.dropN 2)
              replace e7 := Classical.not_not.1 e7
              rw [decide_eq_true e7] at K
              by_cases e8 : ¬ (key.toList = [])
              · rw [decide_eq_false e8] at K
                simp only [Bool.false_and, Bool.true_and] at K
                have HK := hid K; clear K
                go_enter Tryz.func79, Tryz.ntmps79
                go_wp2_with (first
                  | (replace st := hid st; refine wpl_boxA (vs := m.cells) rfl (.tmp 0) rfl rfl st.out ?_; rintro T w1 s1; clear st)
                  | (replace s1 := hid s1; refine wpl_boxA (vs := (kindM k).cells) rfl (.tmp 1) rfl rfl s1.out ?_; rintro U w2 s2; clear s1; obtain ⟨l0, l1, l2, l3, l4, l5, l6, l7, l8, l9⟩ := msgL s2; obtain ⟨j0, j1, j2, j3, j4, j5, j6, j7, j8, j9⟩ := msgL (St.pick 1 s2); simp only [kindM] at l0 l1 l2 l3 l4 l5 l6 l7 l8 l9; simp only [← HM.out] at j0 j1 j2 j3 j4 j5 j6 j7 j8 j9))
                exact HK.out _ (s2.dropN 2)
              replace e8 := Classical.not_not.1 e8
              rw [decide_eq_true e8] at K
              simp only [Bool.true_and] at K
              by_cases e9 : pn = 0
              · rw [decide_eq_true e9] at K
                have E9 := hid e9; clear e9
                have HK := hid K; clear K
                go_enter Tryz.func79, Tryz.ntmps79
                go_wp2_with (first
                  | (replace st := hid st; refine wpl_boxA (vs := m.cells) rfl (.tmp 0) rfl rfl st.out ?_; rintro T w1 s1; clear st)
                  | (replace s1 := hid s1; refine wpl_boxA (vs := (kindM k).cells) rfl (.tmp 1) rfl rfl s1.out ?_; rintro U w2 s2; clear s1; obtain ⟨l0, l1, l2, l3, l4, l5, l6, l7, l8, l9⟩ := msgL s2; obtain ⟨j0, j1, j2, j3, j4, j5, j6, j7, j8, j9⟩ := msgL (St.pick 1 s2); simp only [kindM] at l0 l1 l2 l3 l4 l5 l6 l7 l8 l9; simp only [← HM.out] at j0 j1 j2 j3 j4 j5 j6 j7 j8 j9)
                  | (go_at_call 123; refine equal170_c ?_; rw [decide_eq_true E9.out])
                  | (go_at_call 124; refine equal171_c ?_)
                  | (go_at_call 125; refine equal172_c ?_))
                exact HK.out _ (s2.dropN 2)
              · rw [decide_eq_false e9] at K
                have HK := hid K; clear K
                go_enter Tryz.func79, Tryz.ntmps79
                go_wp2_with (first
                  | (replace st := hid st; refine wpl_boxA (vs := m.cells) rfl (.tmp 0) rfl rfl st.out ?_; rintro T w1 s1; clear st)
                  | (replace s1 := hid s1; refine wpl_boxA (vs := (kindM k).cells) rfl (.tmp 1) rfl rfl s1.out ?_; rintro U w2 s2; clear s1; obtain ⟨l0, l1, l2, l3, l4, l5, l6, l7, l8, l9⟩ := msgL s2; obtain ⟨j0, j1, j2, j3, j4, j5, j6, j7, j8, j9⟩ := msgL (St.pick 1 s2); simp only [kindM] at l0 l1 l2 l3 l4 l5 l6 l7 l8 l9; simp only [← HM.out] at j0 j1 j2 j3 j4 j5 j6 j7 j8 j9)
                  | (go_at_call 123; refine equal170_c ?_; rw [decide_eq_false e9])
                  | (go_at_call 124; refine equal171_c ?_)
                  | (go_at_call 125; refine equal172_c ?_))
                exact HK.out _ (s2.dropN 2)

end

end Go.Proofs.YtojfjbbggpfijaaGreatDoor

/- wire: slices.IndexFunc, ContainsFunc with a predicate that only reads; all. -/
namespace Go.Proofs.YtojfjbbggpfijaaGreatDoor
open Go.RowKit Go.Qd

theorem any_snoc {g : Int → Bool} {l : List Int} {i : Nat} (h : i < l.length) : (l.take (i + 1)).any g = ((l.take i).any g || g l[i]) := by
  rw [List.take_succ_eq_append_getElem h, List.any_append]; simp
theorem any_take {g : Int → Bool} {l : List Int} {i : Nat} (h : i < l.length) (hg : g l[i] = true) : l.any g = true :=
  List.any_eq_true.2 ⟨l[i], List.getElem_mem h, hg⟩

section
variable {W w : World} {R : List HP} {post : Ending → World → Prop}

/-- A predicate's value: it tells 'g', and leaves all as it was. -/
def PredF (W : World) (R : List HP) (F : Nat) (cap : Array Value) (g : Int → Bool) : Prop :=
  ∀ (x : Int) (w1 : World) (p1 : Ending → World → Prop), St W w1 R → (∀ w2, St W w2 R → p1 (.returned (.bool (g x))) w2) → Calls Tryz.prog F (#[.int .i64 x] ++ cap) w1 p1

set_option maxRecDepth 100000 in
set_option maxHeartbeats 4000000 in
theorem idxF181_c {p : Value} {g : Int → Bool} {a : Option Addr} {n c : Nat} {ps : List Int} (hp : Rds W R 1 a n c (ivs ps)) (hn : n ≤ 4096) (hf : PredF W R 134 #[p] g) (st : St W w R)
    (K : ∀ w' r, St W w' R → decide (0 ≤ r) = ps.any g → post (.returned (.int .i64 r)) w') : Calls Tryz.prog 106 #[.slice a n c, .func (.func 134) #[] #[p]] w post := by
  have HK := hid K; clear K
  have HF := hid hf; clear hf
  have HN : Hid (ps.length = n) := hid (by have := (hp w st).len; simp [ivs] at this; omega)
  go_enter Tryz.func106, Tryz.ntmps106
  go_wp2_with fail
  go_loopw [8] (fun ii wr => ∃ i : Nat, i ≤ n ∧ ii = .int .i64 i ∧ (ps.take i).any g = false ∧ St W wr R) (fun ii _ => n - (intOf ii).toNat)
  case atStart => exact ⟨0, Nat.zero_le _, rfl, rfl, st⟩
  case round =>
    obtain ⟨i, hi, rfl, hg, sr⟩ := hrel
    have HG := hid hg; clear hg
    by_cases hlt : i < n
    · have rd := hp _ sr
      obtain ⟨g3, o3, rfl⟩ := rd.addr (by omega)
      have hiA : i < ps.length := by rw [HN.out]; exact hlt
      have ci := rd.at (ivs_get hiA)
      have HS := hid (any_snoc (g := g) hiA)
      have hT := any_take (g := g) hiA
      obtain ⟨q, hq⟩ : ∃ q, ps[i] = q := ⟨_, rfl⟩
      rw [hq] at ci HS hT
      obtain ⟨b, hb⟩ : ∃ b, g q = b := ⟨_, rfl⟩
      have HB := hid hb
      have HT : Hid (b = true → ps.any g = true) := hid (fun h => hT (by rw [hb, h]))
      rw [hb] at HS
      clear hq hb rd hT
      have hi2 : (i : Int) < (n : Int) := by omega
      cases b with
      | true =>
        have HA := hid (HT.out rfl)
        clear HT
        go_wp2_with (go_at_call 134; refine HF.out q _ _ sr ?_; rintro w6 s6; rw [HB.out])
        exact HK.out _ _ s6 (by rw [HA.out]; exact decide_eq_true (by omega))
      | false =>
        go_wp2_with (go_at_call 134; refine HF.out q _ _ sr ?_; rintro w6 s6; rw [HB.out])
        go_roundw
        case rel => exact ⟨i + 1, by omega, by go_num, by rw [HS.out, HG.out]; rfl, s6⟩
        case measure => simp [intOf]; omega
    · have hie : i = n := by omega
      subst hie
      have hg := HG.out
      rw [List.take_of_length_le (by rw [HN.out]; exact Nat.le_refl _)] at hg
      have HG2 := hid hg; clear hg
      go_wp2_with fail
      exact HK.out _ _ sr (by rw [HG2.out]; rfl)

set_option maxRecDepth 100000 in
set_option maxHeartbeats 4000000 in
theorem contF181_c {p : Value} {g : Int → Bool} {a : Option Addr} {n c : Nat} {ps : List Int} (hp : Rds W R 1 a n c (ivs ps)) (hn : n ≤ 4096) (hf : PredF W R 134 #[p] g) (st : St W w R)
    (K : ∀ w', St W w' R → post (.returned (.bool (ps.any g))) w') : Calls Tryz.prog 133 #[.slice a n c, .func (.func 134) #[] #[p]] w post := by
  have HK := hid K; clear K
  go_enter Tryz.func133, Tryz.ntmps133
  go_wp2_with (go_at_call 106; refine idxF181_c hp hn hf st ?_; rintro w2 r s2 hr)
  exact HK.out _ s2
end

end Go.Proofs.YtojfjbbggpfijaaGreatDoor

/- wire: all, of nodes; of no marks, no entries. -/
namespace Go.Proofs.YtojfjbbggpfijaaGreatDoor
open Go.RowKit Go.Qd

def allB (n : Nat) (ps : List Int) : Bool := decide (n ≤ 8) && !(ps.any fun x => !wnodeB x)
def twoI (x y : Int) : Value := .agg #[.int .i64 x, .int .i64 y]

section
variable {W w : World} {R : List HP} {post : Ending → World → Prop}

theorem run_l193 {b o : Nat} {x y : Value} (s : St W w (row b o [x, y] :: R)) : w.cell? ⟨b, o, none⟩ = some x ∧ w.cell? ⟨b, o + 1, none⟩ = some y := ⟨s.rowCell (i := 0) rfl, s.rowCell (i := 1) rfl⟩

theorem pred181 {B : Nat} : PredF W (row B 0 [Value.func (.func 81) #[] #[]] :: R) 134 #[.pointer (some ⟨B, 0, none⟩)] (fun x => !wnodeB x) := by
  intro x w1 p1 s1 K
  have HK := hid K; clear K
  have c0 := row1c s1
  go_enter Tryz.func134, Tryz.ntmps134
  go_wp2_with (go_at_call 81; refine wnode_c ?_)
  exact HK.out _ s1

set_option maxRecDepth 100000 in
set_option maxHeartbeats 4000000 in
theorem all145_c {a : Option Addr} {n c : Nat} {ps : List Int} (hp : Rds W R 1 a n c (ivs ps)) (hn : n ≤ 4096) (st : St W w R)
    (K : ∀ w', St W w' R → post (.returned (.bool (allB n ps))) w') : Calls Tryz.prog 83 #[.slice a n c, twoI 0 8, .func (.func 81) #[] #[]] w post := by
  have h0 : decide ((n : Int) < 0) = false := decide_eq_false (by omega)
  have s1 := st.alloc #[.int .i64 0, .int .i64 8] 180
  obtain ⟨c0, c1⟩ := run_l193 s1
  have s2 : St W ((w.alloc (.cells #[.int .i64 0, .int .i64 8] 180)).alloc (.cells #[.func (.func 81) #[] #[]] 123)) (row (w.heap.size + 1) 0 [Value.func (.func 81) #[] #[]] :: row w.heap.size 0 [.int .i64 0, .int .i64 8] :: R) := by
    have := s1.alloc #[.func (.func 81) #[] #[]] 123
    simpa using this
  unfold allB at K
  unfold twoI
  by_cases h8 : n ≤ 8
  · rw [decide_eq_true h8, Bool.true_and] at K
    have HK := hid K; clear K
    have h1 : decide ((8 : Int) < n) = false := decide_eq_false (by omega)
    go_enter Tryz.func83, Tryz.ntmps83
    go_wp2_with (go_at_call 133; refine contF181_c (hp.cons.cons) hn pred181 s2 ?_; rintro w3 s3)
    exact HK.out _ (s3.dropN 2)
  · rw [decide_eq_false h8, Bool.false_and] at K
    have HK := hid K; clear K
    have h1 : decide ((8 : Int) < n) = true := decide_eq_true (by omega)
    go_enter Tryz.func83, Tryz.ntmps83
    go_wp2_with fail
    exact HK.out _ (s2.dropN 2)

end

end Go.Proofs.YtojfjbbggpfijaaGreatDoor

/- wire: Good, for the kinds without marks and entries. Printed by mkWireH.py. -/
namespace Go.Proofs.YtojfjbbggpfijaaGreatDoor
open Go.RowKit Go.Qd

def b58G (x : Value) : Sem Value := Instr.build 62 #[(0, x)]
def b54G : Sem Value := Instr.build 59 #[]
def b193G (x y : Value) : Sem Value := Instr.build 180 #[(0, x), (1, y)]
theorem execOp_b58 (ρ : Operand → Value) (dst : Option Tmp) (a : Operand) (ty : TypeId) (pos : String) (after : Array Edge) (guard : Option (Nat × Bool)) :
    execOp ρ { dst, op := .build 62 #[(0, a)], type := ty, pos, after, guard } = (do pure (.value (← b58G (ρ a)))) := by simp [execOp, b58G]
theorem execOp_b54 (ρ : Operand → Value) (dst : Option Tmp) (ty : TypeId) (pos : String) (after : Array Edge) (guard : Option (Nat × Bool)) :
    execOp ρ { dst, op := .build 59 #[], type := ty, pos, after, guard } = (do pure (.value (← b54G))) := by simp [execOp, b54G]
theorem execOp_b193 (ρ : Operand → Value) (dst : Option Tmp) (a c : Operand) (ty : TypeId) (pos : String) (after : Array Edge) (guard : Option (Nat × Bool)) :
    execOp ρ { dst, op := .build 180 #[(0, a), (1, c)], type := ty, pos, after, guard } = (do pure (.value (← b193G (ρ a) (ρ c)))) := by simp [execOp, b193G]
theorem run_b58 (k : Int) (w : World) : (b58G (.int .i64 k)).run Tryz.prog w = .ok (.agg (kindM k).cells.toArray) w := by kernel_rfl
theorem run_b54 (w : World) : b54G.run Tryz.prog w = .ok (.agg #[.int .i64 0, .int .i64 0, .string ByteArray.empty]) w := by kernel_rfl
theorem run_b193 (x y : Int) (w : World) : (b193G (.int .i64 x) (.int .i64 y)).run Tryz.prog w = .ok (twoI x y) w := by kernel_rfl
attribute [local go_sem ↓] execOp_loadAny execOp_b58 execOp_b54 execOp_b193
attribute [local go_sem] run_b58 run_b54 run_b193

end Go.Proofs.YtojfjbbggpfijaaGreatDoor

/- wire: Good, for whatever kind. Printed by mkWireI.py. -/
namespace Go.Proofs.YtojfjbbggpfijaaGreatDoor
open Go.RowKit Go.Qd

def loM (k : Nat) : Int := if k = 11 then 1 else if k = 12 then 1 else 0
def hiM (k : Nat) : Int := if k = 11 then 8 else if k = 15 then 8 else if k = 12 then 1 else 0
def loE (k : Nat) : Int := if k = 10 then 1 else if k = 14 then 1 else 0
def hiE (k : Nat) : Int := if k = 10 then 1 else if 14 ≤ k then 8 else 0
theorem formC20 {k : Nat} (h : k < 20) : ∃ v, formC k = [v, .int .i64 (fieldsF k), .int .i64 (loM k), .int .i64 (hiM k), .int .i64 (loE k), .int .i64 (hiE k)] := by
  match k, h with
  | 0, _ => exact ⟨_, rfl⟩
  | 1, _ => exact ⟨_, rfl⟩
  | 2, _ => exact ⟨_, rfl⟩
  | 3, _ => exact ⟨_, rfl⟩
  | 4, _ => exact ⟨_, rfl⟩
  | 5, _ => exact ⟨_, rfl⟩
  | 6, _ => exact ⟨_, rfl⟩
  | 7, _ => exact ⟨_, rfl⟩
  | 8, _ => exact ⟨_, rfl⟩
  | 9, _ => exact ⟨_, rfl⟩
  | 10, _ => exact ⟨_, rfl⟩
  | 11, _ => exact ⟨_, rfl⟩
  | 12, _ => exact ⟨_, rfl⟩
  | 13, _ => exact ⟨_, rfl⟩
  | 14, _ => exact ⟨_, rfl⟩
  | 15, _ => exact ⟨_, rfl⟩
  | 16, _ => exact ⟨_, rfl⟩
  | 17, _ => exact ⟨_, rfl⟩
  | 18, _ => exact ⟨_, rfl⟩
  | 19, _ => exact ⟨_, rfl⟩
  | n + 20, h => exact absurd h (by omega)
def MsgV.mark (m : MsgV) : MkV := ⟨m.mc, m.ms, m.key⟩
def mzB (m : MsgV) : Bool := decide (m.mc = 0) && (decide (m.ms = 0) && m.key.toList.isEmpty)
/-- May a message be? -/
def goodX (m : MsgV) (k : Nat) (ks : List MkV) (es : List EnV) : Bool :=
  sameB (bareM m k) k && (wnodeB m.peer && (decide (0 ≤ m.hops) && (decide (m.hops ≤ 8) && (decide (0 ≤ m.number) && (decide (m.number ≤ 4294967295) && ((mzB m || markB m.mark) && (allB m.pn m.ps && (mkCAll (loM k) (hiM k) ks && enCAll (loE k) (hiE k) es))))))))

def eqMG (x y : Operand) (a b : Value) : Sem Value := do eqGuard .eql 59 x y a b; Go.binOp .eql 59 a b
theorem execOp_eqM (ρ : Operand → Value) (dst : Option Tmp) (x y : Operand) (r : TypeId) (ty : TypeId) (pos : String) (after : Array Edge) (guard : Option (Nat × Bool)) :
    execOp ρ { dst, op := .binOp .eql 59 x y r, type := ty, pos, after, guard } = (do pure (.value (← eqMG x y (ρ x) (ρ y)))) := by simp [execOp, eqMG]
theorem run_eqM (x y : Operand) (m : MsgV) (w : World) : (eqMG x y (.agg #[.int .i64 m.mc, .int .i64 m.ms, .string m.key]) (.agg #[.int .i64 0, .int .i64 0, .string ByteArray.empty])).run Tryz.prog w = .ok (.bool (mzB m)) w := by
  unfold eqMG mzB
  go_simp
  by_cases h1 : m.mc = 0
  · by_cases h2 : m.ms = 0
    · by_cases h3 : m.key.toList = []
      · simp [h1, h2, h3]
      · simp [h1, h2, h3]
    · simp [h1, h2]
  · simp [h1]
attribute [local go_sem ↓] execOp_loadAny execOp_b58 execOp_b54 execOp_b193 execOp_eqM
attribute [local go_sem] run_b58 run_b54 run_b193 run_eqM

section
variable {W w : World} {R : List HP} {post : Ending → World → Prop} {m : MsgV} {ks : List MkV} {es : List EnV}

theorem formLd20 {F k : Nat} (h9 : k < 20) (s : St W w (row F 0 (formC k) :: R)) :
    (loadG 179 (.pointer (some ⟨F, 1, none⟩))).run Tryz.prog w = .ok (.int .i64 (fieldsF k)) w ∧
    (loadG 180 (.pointer (some ⟨F, 2, none⟩))).run Tryz.prog w = .ok (two2 (loM k) (hiM k)) w ∧ (loadG 180 (.pointer (some ⟨F, 4, none⟩))).run Tryz.prog w = .ok (two2 (loE k) (hiE k)) w := by
  obtain ⟨v, hv⟩ := formC20 h9
  rw [hv] at s
  refine ⟨?_, ?_, ?_⟩
  · have c1 := s.rowCell (i := 1) (v := .int .i64 (fieldsF k)) rfl
    rw [Nat.zero_add] at c1
    exact run_load1 (by kernel_rfl) c1
  · exact run_loadG (o := 0 + 2) agg193 (vs := [.int .i64 (loM k), .int .i64 (hiM k)]) rfl (St.rowPart s 2 (xs := [.int .i64 (loM k), .int .i64 (hiM k)]) (ys := [.int .i64 (loE k), .int .i64 (hiE k)]) rfl)
  · exact run_loadG (o := 0 + 4) agg193 (vs := [.int .i64 (loE k), .int .i64 (hiE k)]) rfl (St.rowPart s 4 (xs := [.int .i64 (loE k), .int .i64 (hiE k)]) (ys := []) rfl)

set_option maxRecDepth 100000 in
set_option maxHeartbeats 16000000 in
theorem goodx_c {k : Nat} (h1 : 1 ≤ k) (h9 : k < 20) (hk : m.kind = k) (hp : Rds W R 1 m.pa m.pn m.pc (ivs m.ps)) (hn : m.pn ≤ 4096) (hpM : Rds W R 3 m.ma m.mn m.mq (mkC ks)) (hnM : m.mn ≤ 4096)
    (hpE : Rds W R 9 m.ea m.en m.eq (enC es)) (hnE : m.en ≤ 4096) (st : St W w R)
    (K : ∀ w', St W w' R → post (.returned (.int .i64 (if goodX m k ks es then 0 else 4))) w') : Calls Tryz.prog 39 #[.agg m.cells.toArray] w post := by
  have HP1 := hid hp; have HPM := hid hpM; have HPE := hid hpE
  have HN := hid hn; have HNM := hid hnM; have HNE := hid hnE
  have H20 : Hid (k < 20) := hid h9
  have H1 := hid h1
  have HL := hid (formC_len (k := k) (by omega))
  have HO := hid (formC_one k)
  clear hp hn h1 hpM hpE hnM hnE
  go_enter Tryz.func39, Tryz.ntmps39
  go_wp2_with (first
    | (replace st := hid st; refine wpl_boxA (vs := m.cells) rfl (.tmp 0) rfl rfl st.out ?_; rintro T w1 s1; have l0 := (msgL s1).1; rw [hk] at l0; clear st)
    | (go_at_call 78; refine formOf_yes s1 H1.out H20.out ?_; rintro w2 s2; clear s1 l0)
    | (replace s2 := hid s2; refine wpl_allocA rfl rfl zero195 s2.out ?_; rintro F w3 s3; clear s2)
    | (replace s3 := hid s3; refine wpl_storeA (vs := formC k) rfl (.tmp 3) (.tmp 9) (by rfl) agg195 (by rfl) (by rfl) HL.out HO.out s3.out (by simp) ?_; rintro w4 s4; clear s3))
  have s5 : St W w4 (row T 0 m.cells :: row F 0 (formC k) :: R) := s4.perm [1]
  clear s4
  have hN : Nonempty (Cls fun w' => St W w' (row T 0 m.cells :: row F 0 (formC k) :: R)) := Cls.inh s5.drew
  have f0 : ∀ s : Cls fun w' => St W w' (row T 0 m.cells :: row F 0 (formC k) :: R), (loadG 62 (.pointer (some ⟨T, 0, none⟩))).run Tryz.prog s.w = .ok (.agg m.cells.toArray) s.w := fun s => lg58 s.h
  have f1 : ∀ s : Cls fun w' => St W w' (row T 0 m.cells :: row F 0 (formC k) :: R), (loadG 3 (.pointer (some ⟨T, 0, none⟩))).run Tryz.prog s.w = .ok (.int .i64 k) s.w := fun s => hk ▸ (msgL s.h).1
  have f2 : ∀ s : Cls fun w' => St W w' (row T 0 m.cells :: row F 0 (formC k) :: R), (loadG 3 (.pointer (some ⟨T, 1, none⟩))).run Tryz.prog s.w = .ok (.int .i64 m.peer) s.w := fun s => (msgL s.h).2.1
  have f3 : ∀ s : Cls fun w' => St W w' (row T 0 m.cells :: row F 0 (formC k) :: R), (loadG 3 (.pointer (some ⟨T, 2, none⟩))).run Tryz.prog s.w = .ok (.int .i64 m.hops) s.w := fun s => (msgL s.h).2.2.1
  have f4 : ∀ s : Cls fun w' => St W w' (row T 0 m.cells :: row F 0 (formC k) :: R), (loadG 24 (.pointer (some ⟨T, 4, none⟩))).run Tryz.prog s.w = .ok (.slice m.pa m.pn m.pc) s.w := fun s => (msgL s.h).2.2.2.2.1
  have f5 : ∀ s : Cls fun w' => St W w' (row T 0 m.cells :: row F 0 (formC k) :: R), (loadG 3 (.pointer (some ⟨T, 5, none⟩))).run Tryz.prog s.w = .ok (.int .i64 m.number) s.w := fun s => (msgL s.h).2.2.2.2.2.1
  have f7 : ∀ s : Cls fun w' => St W w' (row T 0 m.cells :: row F 0 (formC k) :: R), (loadG 59 (.pointer (some ⟨T, 7, none⟩))).run Tryz.prog s.w = .ok (.agg #[.int .i64 m.mc, .int .i64 m.ms, .string m.key]) s.w := fun s => (msgL s.h).2.2.2.2.2.2.2.1
  have f8 : ∀ s : Cls fun w' => St W w' (row T 0 m.cells :: row F 0 (formC k) :: R), (loadG 60 (.pointer (some ⟨T, 10, none⟩))).run Tryz.prog s.w = .ok (.slice m.ma m.mn m.mq) s.w := fun s => (msgL s.h).2.2.2.2.2.2.2.2.1
  have f9 : ∀ s : Cls fun w' => St W w' (row T 0 m.cells :: row F 0 (formC k) :: R), (loadG 54 (.pointer (some ⟨T, 11, none⟩))).run Tryz.prog s.w = .ok (.slice m.ea m.en m.eq) s.w := fun s => (msgL s.h).2.2.2.2.2.2.2.2.2
  have g1 : ∀ s : Cls fun w' => St W w' (row T 0 m.cells :: row F 0 (formC k) :: R), (loadG 179 (.pointer (some ⟨F, 1, none⟩))).run Tryz.prog s.w = .ok (.int .i64 (fieldsF k)) s.w := fun s => (formLd20 H20.out s.h.drop).1
  have g2 : ∀ s : Cls fun w' => St W w' (row T 0 m.cells :: row F 0 (formC k) :: R), (loadG 180 (.pointer (some ⟨F, 2, none⟩))).run Tryz.prog s.w = .ok (two2 (loM k) (hiM k)) s.w := fun s => (formLd20 H20.out s.h.drop).2.1
  have g3 : ∀ s : Cls fun w' => St W w' (row T 0 m.cells :: row F 0 (formC k) :: R), (loadG 180 (.pointer (some ⟨F, 4, none⟩))).run Tryz.prog s.w = .ok (two2 (loE k) (hiE k)) s.w := fun s => (formLd20 H20.out s.h.drop).2.2
  clear hk h9
  obtain ⟨b0, e0⟩ : ∃ b, sameB (bareM m k) k = b := ⟨_, rfl⟩
  have HSB := hid e0; clear e0
  obtain ⟨b1, e1⟩ : ∃ b, wnodeB m.peer = b := ⟨_, rfl⟩
  have HNB := hid e1; clear e1
  obtain ⟨b2, e2⟩ : ∃ b, decide (0 ≤ m.hops) = b := ⟨_, rfl⟩
  have H0 := hid e2
  obtain ⟨b3, e3⟩ : ∃ b, decide (m.hops ≤ 8) = b := ⟨_, rfl⟩
  have H8 := hid e3
  obtain ⟨b4, e4⟩ : ∃ b, decide (0 ≤ m.number) = b := ⟨_, rfl⟩
  have N0 := hid e4
  obtain ⟨b5, e5⟩ : ∃ b, decide (m.number ≤ 4294967295) = b := ⟨_, rfl⟩
  have N8 := hid e5
  obtain ⟨b6, e6⟩ : ∃ b, mzB m = b := ⟨_, rfl⟩
  have HMZ := hid e6
  obtain ⟨b7, e7⟩ : ∃ b, markB m.mark = b := ⟨_, rfl⟩
  have HMB := hid e7; clear e7
  obtain ⟨b8, e8⟩ : ∃ b, allB m.pn m.ps = b := ⟨_, rfl⟩
  have HAB := hid e8; clear e8
  obtain ⟨b9, e9⟩ : ∃ b, mkCAll (loM k) (hiM k) ks = b := ⟨_, rfl⟩
  have HM0 := hid e9; clear e9
  obtain ⟨b10, e10⟩ : ∃ b, enCAll (loE k) (hiE k) es = b := ⟨_, rfl⟩
  have HE0 := hid e10; clear e10
  have HG : Hid (goodX m k ks es = (b0 && (b1 && (b2 && (b3 && (b4 && (b5 && ((b6 || b7) && (b8 && (b9 && b10)))))))))) := hid (by unfold goodX; rw [HSB.out, HNB.out, H0.out, H8.out, N0.out, N8.out, HMZ.out, HMB.out, HAB.out, HM0.out, HE0.out])
  have HK := hid K; clear K
  refine wp_region_class (fun w' => St W w' (row T 0 m.cells :: row F 0 (formC k) :: R)) (by kernel_rfl) (by kernel_rfl) s5.drew ?_
  dsimp only [List.append]
  iterate 9 (go_big_quiet_step ((rename_i s; first
    | (go_at_call 80; refine bare_c H20.out s.h ?_; rintro w2 s2; exact Cls.end _ s2)
    | (go_at_call 79; refine wsame_c ⟨rfl, rfl, rfl, rfl, rfl, rfl⟩ s.h ?_; rintro w2 s2; rw [HSB.out]; exact Cls.end _ s2))))
  cases b0 with
  | false =>
    have HG2 : Hid (goodX m k ks es = false) := hid (by rw [HG.out]; rfl)
    rw [HG2.out] at HK
    repeat (go_big_quiet_step (fail))
    refine wpQuiet_nil ?_
    rintro ⟨w6, s6⟩
    dsimp only
    go_wp2_with fail
    exact HK.out _ (by exact s6.dropN 2)
  | true =>
    repeat (go_big_quiet_step ((rename_i s; (go_at_call 81; refine wnode_c ?_; rw [HNB.out]; exact Cls.end _ s.h))))
    cases b1 with
    | false =>
      have HG2 : Hid (goodX m k ks es = false) := hid (by rw [HG.out]; rfl)
      rw [HG2.out] at HK
      repeat (go_big_quiet_step (fail))
      refine wpQuiet_nil ?_
      rintro ⟨w6, s6⟩
      dsimp only
      go_wp2_with fail
      exact HK.out _ (by exact s6.dropN 2)
    | true =>
      repeat (go_big_quiet_step ((rename_i s; fail)))
      cases b2 with
      | false =>
        have HG2 : Hid (goodX m k ks es = false) := hid (by rw [HG.out]; rfl)
        rw [HG2.out] at HK
        repeat (go_big_quiet_step (fail))
        refine wpQuiet_nil ?_
        rintro ⟨w6, s6⟩
        dsimp only
        go_wp2_with fail
        exact HK.out _ (by exact s6.dropN 2)
      | true =>
        repeat (go_big_quiet_step ((rename_i s; fail)))
        cases b3 with
        | false =>
          have HG2 : Hid (goodX m k ks es = false) := hid (by rw [HG.out]; rfl)
          rw [HG2.out] at HK
          repeat (go_big_quiet_step (fail))
          refine wpQuiet_nil ?_
          rintro ⟨w6, s6⟩
          dsimp only
          go_wp2_with fail
          exact HK.out _ (by exact s6.dropN 2)
        | true =>
          repeat (go_big_quiet_step ((rename_i s; fail)))
          cases b4 with
          | false =>
            have HG2 : Hid (goodX m k ks es = false) := hid (by rw [HG.out]; rfl)
            rw [HG2.out] at HK
            repeat (go_big_quiet_step (fail))
            refine wpQuiet_nil ?_
            rintro ⟨w6, s6⟩
            dsimp only
            go_wp2_with fail
            exact HK.out _ (by exact s6.dropN 2)
          | true =>
            repeat (go_big_quiet_step ((rename_i s; fail)))
            cases b5 with
            | false =>
              have HG2 : Hid (goodX m k ks es = false) := hid (by rw [HG.out]; rfl)
              rw [HG2.out] at HK
              repeat (go_big_quiet_step (fail))
              refine wpQuiet_nil ?_
              rintro ⟨w6, s6⟩
              dsimp only
              go_wp2_with fail
              exact HK.out _ (by exact s6.dropN 2)
            | true =>
              repeat (go_big_quiet_step ((rename_i s; fail)))
              cases b6 with
              | true =>
                repeat (go_big_quiet_step ((rename_i s; (go_at_call 83; refine all145_c HP1.out.cons.cons HN.out s.h ?_; rintro w2 s2; rw [HAB.out]; exact Cls.end _ s2))))
                cases b8 with
                | false =>
                  have HG2 : Hid (goodX m k ks es = false) := hid (by rw [HG.out]; rfl)
                  rw [HG2.out] at HK
                  repeat (go_big_quiet_step (fail))
                  refine wpQuiet_nil ?_
                  rintro ⟨w6, s6⟩
                  dsimp only
                  go_wp2_with fail
                  exact HK.out _ (by exact s6.dropN 2)
                | true =>
                  repeat (go_big_quiet_step ((rename_i s; (go_at_call 84; refine mkCAll_c HPM.out.cons.cons HNM.out s.h ?_; rintro w2 s2; rw [HM0.out]; exact Cls.end _ s2))))
                  cases b9 with
                  | false =>
                    have HG2 : Hid (goodX m k ks es = false) := hid (by rw [HG.out]; rfl)
                    rw [HG2.out] at HK
                    repeat (go_big_quiet_step (fail))
                    refine wpQuiet_nil ?_
                    rintro ⟨w6, s6⟩
                    dsimp only
                    go_wp2_with fail
                    exact HK.out _ (by exact s6.dropN 2)
                  | true =>
                    repeat (go_big_quiet_step ((rename_i s; (go_at_call 85; refine enCAll_c HPE.out.cons.cons HNE.out s.h ?_; rintro w2 s2; rw [HE0.out]; exact Cls.end _ s2))))
                    cases b10 with
                    | false =>
                      have HG2 : Hid (goodX m k ks es = false) := hid (by rw [HG.out]; rfl)
                      rw [HG2.out] at HK
                      repeat (go_big_quiet_step (fail))
                      refine wpQuiet_nil ?_
                      rintro ⟨w6, s6⟩
                      dsimp only
                      go_wp2_with fail
                      exact HK.out _ (by exact s6.dropN 2)
                    | true =>
                      have HG2 : Hid (goodX m k ks es = true) := hid (by rw [HG.out]; rfl)
                      rw [HG2.out] at HK
                      repeat (go_big_quiet_step (fail))
                      refine wpQuiet_nil ?_
                      rintro ⟨w6, s6⟩
                      dsimp only
                      go_wp2_with fail
                      exact HK.out _ (by exact s6.dropN 2)
              | false =>
                repeat (go_big_quiet_step ((rename_i s; (go_at_call 82; refine goodMark_c (m := m.mark) s.h ?_; rintro w2 s2; rw [HMB.out]; exact Cls.end _ s2))))
                cases b7 with
                | false =>
                  have HG2 : Hid (goodX m k ks es = false) := hid (by rw [HG.out]; rfl)
                  rw [HG2.out] at HK
                  repeat (go_big_quiet_step (fail))
                  refine wpQuiet_nil ?_
                  rintro ⟨w6, s6⟩
                  dsimp only
                  go_wp2_with fail
                  exact HK.out _ (by exact s6.dropN 2)
                | true =>
                  repeat (go_big_quiet_step ((rename_i s; (go_at_call 83; refine all145_c HP1.out.cons.cons HN.out s.h ?_; rintro w2 s2; rw [HAB.out]; exact Cls.end _ s2))))
                  cases b8 with
                  | false =>
                    have HG2 : Hid (goodX m k ks es = false) := hid (by rw [HG.out]; rfl)
                    rw [HG2.out] at HK
                    repeat (go_big_quiet_step (fail))
                    refine wpQuiet_nil ?_
                    rintro ⟨w6, s6⟩
                    dsimp only
                    go_wp2_with fail
                    exact HK.out _ (by exact s6.dropN 2)
                  | true =>
                    repeat (go_big_quiet_step ((rename_i s; (go_at_call 84; refine mkCAll_c HPM.out.cons.cons HNM.out s.h ?_; rintro w2 s2; rw [HM0.out]; exact Cls.end _ s2))))
                    cases b9 with
                    | false =>
                      have HG2 : Hid (goodX m k ks es = false) := hid (by rw [HG.out]; rfl)
                      rw [HG2.out] at HK
                      repeat (go_big_quiet_step (fail))
                      refine wpQuiet_nil ?_
                      rintro ⟨w6, s6⟩
                      dsimp only
                      go_wp2_with fail
                      exact HK.out _ (by exact s6.dropN 2)
                    | true =>
                      repeat (go_big_quiet_step ((rename_i s; (go_at_call 85; refine enCAll_c HPE.out.cons.cons HNE.out s.h ?_; rintro w2 s2; rw [HE0.out]; exact Cls.end _ s2))))
                      cases b10 with
                      | false =>
                        have HG2 : Hid (goodX m k ks es = false) := hid (by rw [HG.out]; rfl)
                        rw [HG2.out] at HK
                        repeat (go_big_quiet_step (fail))
                        refine wpQuiet_nil ?_
                        rintro ⟨w6, s6⟩
                        dsimp only
                        go_wp2_with fail
                        exact HK.out _ (by exact s6.dropN 2)
                      | true =>
                        have HG2 : Hid (goodX m k ks es = true) := hid (by rw [HG.out]; rfl)
                        rw [HG2.out] at HK
                        repeat (go_big_quiet_step (fail))
                        refine wpQuiet_nil ?_
                        rintro ⟨w6, s6⟩
                        dsimp only
                        go_wp2_with fail
                        exact HK.out _ (by exact s6.dropN 2)
end

end Go.Proofs.YtojfjbbggpfijaaGreatDoor
