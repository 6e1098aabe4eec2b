/- Forms: several texts, joined. wire: the kinds' forms. Printed by mkWireA.py. -/
import Derived.Test.YtbpdchaeakihkaaGreatNews
namespace Go.Proofs.YtbpdchaeakihkaaGreat
open Go.RowKit Go.Qd

def formL : List (List Value) := [
  [.string ByteArray.empty, .int .i64 0, .int .i64 0, .int .i64 0, .int .i64 0, .int .i64 0],
  [.string { data := #[106, 111, 105, 110] }, .int .i64 0, .int .i64 0, .int .i64 0, .int .i64 0, .int .i64 0],
  [.string { data := #[102, 111, 114, 119, 97, 114, 100] }, .int .i64 3, .int .i64 0, .int .i64 0, .int .i64 0, .int .i64 0],
  [.string { data := #[110, 101, 105, 103, 104, 98, 111, 114] }, .int .i64 4, .int .i64 0, .int .i64 0, .int .i64 0, .int .i64 0],
  [.string { data := #[97, 99, 99, 101, 112, 116] }, .int .i64 0, .int .i64 0, .int .i64 0, .int .i64 0, .int .i64 0],
  [.string { data := #[114, 101, 102, 117, 115, 101] }, .int .i64 0, .int .i64 0, .int .i64 0, .int .i64 0, .int .i64 0],
  [.string { data := #[112, 97, 114, 116] }, .int .i64 0, .int .i64 0, .int .i64 0, .int .i64 0, .int .i64 0],
  [.string { data := #[115, 104, 117, 102, 102, 108, 101] }, .int .i64 11, .int .i64 0, .int .i64 0, .int .i64 0, .int .i64 0],
  [.string { data := #[115, 119, 97, 112] }, .int .i64 8, .int .i64 0, .int .i64 0, .int .i64 0, .int .i64 0],
  [.string { data := #[98, 101, 97, 116] }, .int .i64 0, .int .i64 0, .int .i64 0, .int .i64 0, .int .i64 0],
  [.string { data := #[103, 111, 115, 115, 105, 112] }, .int .i64 256, .int .i64 0, .int .i64 0, .int .i64 1, .int .i64 1],
  [.string { data := #[104, 97, 118, 101] }, .int .i64 128, .int .i64 1, .int .i64 8, .int .i64 0, .int .i64 0],
  [.string { data := #[103, 114, 97, 102, 116] }, .int .i64 128, .int .i64 1, .int .i64 1, .int .i64 0, .int .i64 0],
  [.string { data := #[112, 114, 117, 110, 101] }, .int .i64 0, .int .i64 0, .int .i64 0, .int .i64 0, .int .i64 0],
  [.string { data := #[114, 117, 109, 111, 114, 115] }, .int .i64 256, .int .i64 0, .int .i64 0, .int .i64 1, .int .i64 8],
  [.string { data := #[101, 99, 104, 111] }, .int .i64 384, .int .i64 0, .int .i64 8, .int .i64 0, .int .i64 8],
  [.string { data := #[99, 104, 101, 99, 107] }, .int .i64 304, .int .i64 0, .int .i64 0, .int .i64 0, .int .i64 8],
  [.string { data := #[109, 97, 116, 99, 104] }, .int .i64 304, .int .i64 0, .int .i64 0, .int .i64 0, .int .i64 8],
  [.string { data := #[112, 101, 101, 108] }, .int .i64 336, .int .i64 0, .int .i64 0, .int .i64 0, .int .i64 8],
  [.string { data := #[112, 105, 108, 101] }, .int .i64 368, .int .i64 0, .int .i64 0, .int .i64 0, .int .i64 8]]
def formC (k : Nat) : List Value := formL.getD k []
def fieldsF (k : Nat) : Int := [0, 0, 3, 4, 0, 0, 0, 11, 8, 0, 256, 128, 128, 0, 256, 384, 304, 304, 336, 368].getD k 0
theorem agg195 : AggT Tryz.prog 195 6 := ⟨⟨_, Tryz.underlying195, rfl⟩, by kernel_rfl⟩
theorem agg193 : AggT Tryz.prog 193 2 := ⟨⟨_, Tryz.underlying193, rfl⟩, by kernel_rfl⟩
theorem zero193 (w : World) : (zeroValue 193).run Tryz.prog w = .ok (.agg [Value.int .i64 0, .int .i64 0].toArray) w := by kernel_rfl
theorem zero195 (w : World) : (zeroValue 195).run Tryz.prog w = .ok (.agg [Value.string ByteArray.empty, .int .i64 0, .int .i64 0, .int .i64 0, .int .i64 0, .int .i64 0].toArray) w := by kernel_rfl

section
variable {W w : World} {R : List HP} {post : Ending → World → Prop}

set_option maxRecDepth 100000 in
set_option maxHeartbeats 4000000 in
theorem forms_c (st : St W w R) (K : ∀ B w', St W w' (row B 0 formL.flatten :: R) → post (.returned (.slice (some ⟨B, 0, none⟩) 20 20)) w') : Calls Tryz.prog 169 #[] w post := by
  have HK := hid K; clear K
  go_enter Tryz.func169, Tryz.ntmps169
  go_wp2_with fail
  have s4 : St W ((((w.alloc (.cells #[.int .i64 1, .int .i64 1] 193)).alloc (.cells #[.int .i64 1, .int .i64 8] 193)).alloc (.cells #[.int .i64 0, .int .i64 8] 193)).alloc (.cells formL.flatten.toArray 195)) (row (w.heap.size + 1 + 1 + 1) 0 formL.flatten :: R) := by
    have := (((st.alloc #[.int .i64 1, .int .i64 1] 193).drop.alloc #[.int .i64 1, .int .i64 8] 193).drop.alloc #[.int .i64 0, .int .i64 8] 193).drop.alloc formL.flatten.toArray 195
    simpa using this
  exact HK.out _ _ s4

end

end Go.Proofs.YtbpdchaeakihkaaGreat

/- wire: formOf. -/
namespace Go.Proofs.YtbpdchaeakihkaaGreat
open Go.RowKit Go.Qd

def noForm : List Value := [.string ByteArray.empty, .int .i64 0, .int .i64 0, .int .i64 0, .int .i64 0, .int .i64 0]
theorem formC_len {k : Nat} (h : k < 20) : (formC k).length = 6 := by
  have : ∀ k, k < 20 → (formC k).length = 6 := by decide
  exact this k h
theorem form_drop {k : Nat} (h : k < 20) : formL.flatten.drop (k * 6) = formC k ++ formL.flatten.drop (k * 6 + 6) := by
  match k, h with
  | 0, _ => exact rfl
  | 1, _ => exact rfl
  | 2, _ => exact rfl
  | 3, _ => exact rfl
  | 4, _ => exact rfl
  | 5, _ => exact rfl
  | 6, _ => exact rfl
  | 7, _ => exact rfl
  | 8, _ => exact rfl
  | 9, _ => exact rfl
  | 10, _ => exact rfl
  | 11, _ => exact rfl
  | 12, _ => exact rfl
  | 13, _ => exact rfl
  | 14, _ => exact rfl
  | 15, _ => exact rfl
  | 16, _ => exact rfl
  | 17, _ => exact rfl
  | 18, _ => exact rfl
  | 19, _ => exact rfl
  | n + 20, h => exact absurd h (by omega)
theorem noForm_one : ∀ u ∈ noForm, u.oneCell' = true := by intro u h; simp [noForm] at h; rcases h with h | h <;> subst h <;> rfl
theorem formC_one (k : Nat) : ∀ u ∈ formC k, u.oneCell' = true := by
  rcases Nat.lt_or_ge k 20 with h | h
  · have : ∀ k, k < 20 → ∀ u ∈ formC k, u.oneCell' = true := by decide
    exact this k h
  · have : formC k = [] := by unfold formC; rw [List.getD_eq_getElem?_getD, List.getElem?_eq_none (by exact h)]; rfl
    rw [this]; intro u hu; cases hu

section
variable {W w : World} {R : List HP} {post : Ending → World → Prop}

theorem execOp_load195 (ρ : Operand → Value) (dst : Option Tmp) (a : Operand) (ty : TypeId) (pos : String) (after : Array Edge) (guard : Option (Nat × Bool)) :
    execOp ρ { dst, op := .load 195 a, type := ty, pos, after, guard } = (do pure (.value (← loadG 195 (ρ a)))) := rfl
attribute [local go_sem ↓] execOp_load195

set_option maxRecDepth 100000 in
set_option maxHeartbeats 4000000 in
theorem formOf_yes {k : Nat} (st : St W w R) (h1 : 1 ≤ k) (h2 : k < 20) (K : ∀ w', St W w' R → post (.returned (.tuple #[.agg (formC k).toArray, .bool true])) w') : Calls Tryz.prog 140 #[.int .i64 k] w post := by
  have HK := hid K; clear K
  have HL := hid (formC_len h2)
  have HD := hid (form_drop h2)
  have k1 : (1 : Int) ≤ k := by omega
  have k2 : (k : Int) < 20 := by omega
  go_enter Tryz.func140, Tryz.ntmps140
  go_wp2_with (first
    | (refine wpl_allocA rfl rfl zero195 st ?_; rintro E w1 s1)
    | (go_at_call 169; refine forms_c s1 ?_; rintro B w2 s2; have lg := run_loadG (o := 0 + k * 6) agg195 HL.out (St.rowPart s2 (k * 6) HD.out); rw [Nat.zero_add] at lg)
    | (refine wpl_storeA (vs := formC k) rfl (.tmp 2) (.tmp 18) (by rfl) agg195 (by rfl) (by rfl) HL.out (formC_one k) (St.pick 1 s2) (by simp) ?_; rintro w3 s3))
  have hL := run_loadA agg195 HL.out s3.rowAll
  exact bodyPost_ret (v := .tuple #[.agg (formC k).toArray, .bool true]) (by simp [results, Tryz.results140, asAddr, hL]) rfl (HK.out _ (s3.dropN 2))

set_option maxRecDepth 100000 in
set_option maxHeartbeats 4000000 in
theorem formOf_no {k : Int} (st : St W w R) (h : ¬ (1 ≤ k ∧ k < 20)) (K : ∀ w', St W w' R → post (.returned (.tuple #[.agg noForm.toArray, .bool false])) w') : Calls Tryz.prog 140 #[.int .i64 k] w post := by
  have HK := hid K; clear K
  by_cases h1 : 1 ≤ k
  · have k1 : decide (k < 1) = false := by simp; omega
    have k2 : decide (20 ≤ k) = true := by simp; omega
    clear h h1
    go_enter Tryz.func140, Tryz.ntmps140
    go_wp2_with (first
      | (refine wpl_allocA rfl rfl zero195 st ?_; rintro E w1 s1)
      | (go_at_call 169; refine forms_c s1 ?_; rintro B w2 s2)
      | (refine wpl_build (v := .agg noForm.toArray) rfl (rfl : _ = Op.build 195 _) (by kernel_rfl) ?_)
      | (refine wpl_storeA (vs := noForm) rfl (.tmp 2) (.tmp 14) (by rfl) agg195 (by rfl) (by rfl) rfl noForm_one (St.pick 1 s2) (by simp) ?_; rintro w3 s3))
    have hL := run_loadA agg195 (vs := noForm) rfl s3.rowAll
    exact bodyPost_ret (v := .tuple #[.agg noForm.toArray, .bool false]) (by simp [results, Tryz.results140, asAddr, hL]) rfl (HK.out _ (s3.dropN 2))
  · have k1 : decide (k < 1) = true := by simp; omega
    clear h h1
    go_enter Tryz.func140, Tryz.ntmps140
    go_wp2_with (first
      | (refine wpl_allocA rfl rfl zero195 st ?_; rintro E w1 s1)
      | (go_at_call 169; refine forms_c s1 ?_; rintro B w2 s2)
      | (refine wpl_build (v := .agg noForm.toArray) rfl (rfl : _ = Op.build 195 _) (by kernel_rfl) ?_)
      | (refine wpl_storeA (vs := noForm) rfl (.tmp 2) (.tmp 14) (by rfl) agg195 (by rfl) (by rfl) rfl noForm_one (St.pick 1 s2) (by simp) ?_; rintro w3 s3))
    have hL := run_loadA agg195 (vs := noForm) rfl s3.rowAll
    exact bodyPost_ret (v := .tuple #[.agg noForm.toArray, .bool false]) (by simp [results, Tryz.results140, asAddr, hL]) rfl (HK.out _ (s3.dropN 2))

end

end Go.Proofs.YtbpdchaeakihkaaGreat

/- wire: the seven closures of bare, each clearing a field. -/
namespace Go.Proofs.YtbpdchaeakihkaaGreat
open Go.RowKit Go.Qd

/-- A message with a field cleared. -/
def clearM (i : Nat) (m : MsgV) : MsgV :=
  match i with
  | 0 => { m with peer := 0 }
  | 1 => { m with hops := 0 }
  | 2 => { m with high := false }
  | 3 => { m with pa := none, pn := 0, pc := 0, ps := [] }
  | 4 => { m with number := 0 }
  | 5 => { m with sum := 0 }
  | 6 => { m with mc := 0, ms := 0, key := ByteArray.empty }
  | _ => m
def clearIf (b : Bool) (i : Nat) (m : MsgV) : MsgV := if b = true then clearM i m else m
/-- A kind's field: is the bit set? -/
def bitF (k i : Nat) : Bool := bits .and .i64 (fieldsF k) ((2 ^ i : Nat) : Int) != 0
def bareN (m : MsgV) (k : Nat) : Nat → MsgV
  | 0 => m
  | i + 1 => clearIf (bitF k i) i (bareN m k i)

section
variable {W w : World} {R : List HP} {post : Ending → World → Prop} {b : Nat} {m : MsgV}

theorem boxMf (st : St W w (row b 0 m.cells :: R)) : ∀ i, i < 12 → w.frozen? ⟨b, i, none⟩ = false := fun i h => by
  have := st.rowFree (i := i) (by exact h); rwa [Nat.zero_add] at this

theorem clear0_c (st : St W w (row b 0 m.cells :: R)) (K : ∀ w', St W w' (row b 0 (clearM 0 m).cells :: R) → post (.returned (.tuple #[])) w') : Calls Tryz.prog 173 #[.pointer (some ⟨b, 0, none⟩)] w post := by
  have HK := hid K; clear K
  obtain ⟨g0, g1, g2, g3, g4, g5, g6, g7, g8, g9, g10, g11⟩ := boxM st
  have f1 := boxMf st 1 (by decide)
  go_enter Tryz.func173, Tryz.ntmps173
  go_wp2
  go_end0
  exact HK.out _ (st.rowSet (i := 1) (by simp [MsgV.cells]) (.int .i64 0))

theorem clear1_c (st : St W w (row b 0 m.cells :: R)) (K : ∀ w', St W w' (row b 0 (clearM 1 m).cells :: R) → post (.returned (.tuple #[])) w') : Calls Tryz.prog 174 #[.pointer (some ⟨b, 0, none⟩)] w post := by
  have HK := hid K; clear K
  obtain ⟨g0, g1, g2, g3, g4, g5, g6, g7, g8, g9, g10, g11⟩ := boxM st
  have f1 := boxMf st 2 (by decide)
  go_enter Tryz.func174, Tryz.ntmps174
  go_wp2
  go_end0
  exact HK.out _ (st.rowSet (i := 2) (by simp [MsgV.cells]) (.int .i64 0))

theorem clear2_c (st : St W w (row b 0 m.cells :: R)) (K : ∀ w', St W w' (row b 0 (clearM 2 m).cells :: R) → post (.returned (.tuple #[])) w') : Calls Tryz.prog 175 #[.pointer (some ⟨b, 0, none⟩)] w post := by
  have HK := hid K; clear K
  obtain ⟨g0, g1, g2, g3, g4, g5, g6, g7, g8, g9, g10, g11⟩ := boxM st
  have f1 := boxMf st 3 (by decide)
  go_enter Tryz.func175, Tryz.ntmps175
  go_wp2
  go_end0
  exact HK.out _ (st.rowSet (i := 3) (by simp [MsgV.cells]) (.bool false))

theorem clear3_c (st : St W w (row b 0 m.cells :: R)) (K : ∀ w', St W w' (row b 0 (clearM 3 m).cells :: R) → post (.returned (.tuple #[])) w') : Calls Tryz.prog 176 #[.pointer (some ⟨b, 0, none⟩)] w post := by
  have HK := hid K; clear K
  obtain ⟨g0, g1, g2, g3, g4, g5, g6, g7, g8, g9, g10, g11⟩ := boxM st
  have f1 := boxMf st 4 (by decide)
  go_enter Tryz.func176, Tryz.ntmps176
  go_wp2
  go_end0
  exact HK.out _ (st.rowSet (i := 4) (by simp [MsgV.cells]) (.slice none 0 0))

theorem clear4_c (st : St W w (row b 0 m.cells :: R)) (K : ∀ w', St W w' (row b 0 (clearM 4 m).cells :: R) → post (.returned (.tuple #[])) w') : Calls Tryz.prog 177 #[.pointer (some ⟨b, 0, none⟩)] w post := by
  have HK := hid K; clear K
  obtain ⟨g0, g1, g2, g3, g4, g5, g6, g7, g8, g9, g10, g11⟩ := boxM st
  have f1 := boxMf st 5 (by decide)
  go_enter Tryz.func177, Tryz.ntmps177
  go_wp2
  go_end0
  exact HK.out _ (st.rowSet (i := 5) (by simp [MsgV.cells]) (.int .i64 0))

theorem clear5_c (st : St W w (row b 0 m.cells :: R)) (K : ∀ w', St W w' (row b 0 (clearM 5 m).cells :: R) → post (.returned (.tuple #[])) w') : Calls Tryz.prog 178 #[.pointer (some ⟨b, 0, none⟩)] w post := by
  have HK := hid K; clear K
  obtain ⟨g0, g1, g2, g3, g4, g5, g6, g7, g8, g9, g10, g11⟩ := boxM st
  have f1 := boxMf st 6 (by decide)
  go_enter Tryz.func178, Tryz.ntmps178
  go_wp2
  go_end0
  exact HK.out _ (st.rowSet (i := 6) (by simp [MsgV.cells]) (.int .u64 0))

theorem clear6_c (st : St W w (row b 0 m.cells :: R)) (K : ∀ w', St W w' (row b 0 (clearM 6 m).cells :: R) → post (.returned (.tuple #[])) w') : Calls Tryz.prog 179 #[.pointer (some ⟨b, 0, none⟩)] w post := by
  have HK := hid K; clear K
  obtain ⟨g0, g1, g2, g3, g4, g5, g6, g7, g8, g9, g10, g11⟩ := boxM st
  have f7 := boxMf st 7 (by decide)
  have f8 := boxMf st 8 (by decide)
  have f9 := boxMf st 9 (by decide)
  go_enter Tryz.func179, Tryz.ntmps179
  go_wp2
  go_end0
  exact HK.out _ (((st.rowSet (i := 7) (by simp [MsgV.cells]) (.int .i64 0)).rowSet (i := 8) (by simp [MsgV.cells]) (.int .i64 0)).rowSet (i := 9) (by simp [MsgV.cells]) (.string ByteArray.empty))

end

end Go.Proofs.YtbpdchaeakihkaaGreat

/- wire: bare. -/
namespace Go.Proofs.YtbpdchaeakihkaaGreat
open Go.RowKit Go.Qd

def zeroM : MsgV := ⟨0, 0, 0, false, none, 0, 0, [], 0, 0, 0, 0, ByteArray.empty, none, 0, 0, none, 0, 0⟩
theorem zero58 (w : World) : (zeroValue 58).run Tryz.prog w = .ok (.agg zeroM.cells.toArray) w := by kernel_rfl
def clo (i D : Nat) : Value := .func (.func (173 + i)) #[] #[.pointer (some ⟨D, 0, none⟩)]
def bareTab (D : Nat) : List Value := [.int .i64 1, clo 0 D, .int .i64 2, clo 1 D, .int .i64 4, clo 2 D, .int .i64 8, clo 3 D, .int .i64 16, clo 4 D, .int .i64 32, clo 5 D, .int .i64 64, clo 6 D]
theorem agg228 : AggT Tryz.prog 228 2 := ⟨⟨_, Tryz.underlying228, rfl⟩, by kernel_rfl⟩
theorem zero228 (w : World) : (zeroValue 228).run Tryz.prog w = .ok (.agg [Value.int .i64 0, .nilFunc].toArray) w := by kernel_rfl
theorem clo_one (x : Int) (i D : Nat) : ∀ u ∈ [Value.int .i64 x, clo i D], u.oneCell' = true := by
  intro u hu; simp only [List.mem_cons, List.not_mem_nil, or_false] at hu; rcases hu with rfl | rfl <;> rfl
theorem clearIf_t (i : Nat) (m : MsgV) : clearIf true i m = clearM i m := if_pos rfl
theorem clearIf_f (i : Nat) (m : MsgV) : clearIf false i m = m := if_neg (by decide)
/-- What bare gives. -/
def bareM (m : MsgV) (k : Nat) : MsgV := { bareN m k 7 with ma := none, mn := 0, mq := 0, ea := none, en := 0, eq := 0 }

theorem St.sel2 {W w : World} {R : List HP} {a b : HP} (s : St W w (a :: b :: R)) : St W w (a :: R) := ((St.pick 1 s).drop)
section
variable {W w : World} {R : List HP} {post : Ending → World → Prop} {m : MsgV}

theorem hmf : ∀ fn first cap w, (Instr.makeFunc fn first cap).run Tryz.prog w = .ok (.func fn first cap) w := fun _ _ _ _ => rfl
theorem execOp_load58' (ρ : Operand → Value) (dst : Option Tmp) (a : Operand) (ty : TypeId) (pos : String) (after : Array Edge) (guard : Option (Nat × Bool)) :
    execOp ρ { dst, op := .load 58 a, type := ty, pos, after, guard } = (do pure (.value (← loadG 58 (ρ a)))) := rfl
attribute [local go_sem ↓] execOp_load58'

set_option maxRecDepth 100000 in
set_option maxHeartbeats 4000000 in
theorem bare_c {k : Nat} (_hk : k < 20) (st : St W w R) (K : ∀ w', St W w' R → post (.returned (.agg (bareM m k).cells.toArray)) w') : Calls Tryz.prog 142 #[.agg m.cells.toArray, .int .i64 (fieldsF k)] w post := by
  have HK := hid K; clear K
  have Hm := hmf
  go_enter Tryz.func142, Tryz.ntmps142
  go_wp2_with (first
    | (refine wpl_boxA (vs := m.cells) rfl (.tmp 0) rfl rfl st ?_; rintro T w1 s1)
    | (refine wpl_allocA rfl rfl zero58 s1 ?_; rintro E w2 s2; have lg := lg58 (St.pick 1 s2))
    | (refine wpl_allocA rfl rfl zero58 s2 ?_; rintro D w3 s3)
    | (refine wpl_storeA (vs := m.cells) rfl (.tmp 5) (.tmp 8) (by rfl) agg58 (by rfl) (by rfl) rfl (msg_one m) s3 (by simp [zeroM, MsgV.cells]) ?_; rintro w4 s4))
  have s5 := s4.alloc (bareTab D).toArray 228
  generalize hw5 : w4.alloc (.cells (bareTab D).toArray 228) = w5 at s5
  have eB : w4.alloc (.cells #[.int .i64 1, .func (.func 173) #[] #[.pointer (some ⟨D, 0, none⟩)], .int .i64 2, .func (.func 174) #[] #[.pointer (some ⟨D, 0, none⟩)], .int .i64 4, .func (.func 175) #[] #[.pointer (some ⟨D, 0, none⟩)], .int .i64 8, .func (.func 176) #[] #[.pointer (some ⟨D, 0, none⟩)], .int .i64 16, .func (.func 177) #[] #[.pointer (some ⟨D, 0, none⟩)], .int .i64 32, .func (.func 178) #[] #[.pointer (some ⟨D, 0, none⟩)], .int .i64 64, .func (.func 179) #[] #[.pointer (some ⟨D, 0, none⟩)]] 228) = w5 := hw5
  rw [eB]
  clear hw5 eB lg s1 s2 s3
  generalize w4.heap.size = B at s5 ⊢
  have s6 : St W w5 (row D 0 m.cells :: row B 0 (bareTab D) :: row E 0 zeroM.cells :: row T 0 m.cells :: R) := s5.perm [1]
  clear s4 s5
  go_loopw [25] (fun ii wr => ∃ i : Nat, i ≤ 7 ∧ ii = .int .i64 i ∧ St W wr (row D 0 (bareN m k i).cells :: row B 0 (bareTab D) :: row E 0 zeroM.cells :: row T 0 m.cells :: R)) (fun ii _ => 7 - (intOf ii).toNat)
  case atStart => exact ⟨0, Nat.zero_le _, rfl, s6⟩
  case round =>
    obtain ⟨i, hi, rfl, sr⟩ := hrel
    have sT := St.pick 1 sr
    match i, hi with
    | 0, _ =>
      have c0 : wr.cell? ⟨B, 0, none⟩ = some (.int .i64 1) := by have := sT.rowCell (i := 0) rfl; rwa [Nat.zero_add] at this
      have c1 : wr.cell? ⟨B, 1, none⟩ = some (.func (.func 173) #[] #[.pointer (some ⟨D, 0, none⟩)]) := by have := sT.rowCell (i := 1) rfl; rwa [Nat.zero_add] at this
      clear sT
      have hb : (bits BinOp.and IntKind.i64 (fieldsF k) 1 != 0) = bitF k 0 := rfl
      have hN : bareN m k 1 = clearIf (bitF k 0) 0 (bareN m k 0) := rfl
      obtain ⟨f, hf⟩ : ∃ f, bitF k 0 = f := ⟨_, rfl⟩
      rw [hf] at hb hN
      clear hf
      have HX := hid hN
      clear hN
      cases f with
      | true =>
        go_wp2_with (first
          | (refine wpl_allocA rfl rfl zero228 sr ?_; rintro X w7 s7)
          | (refine wpl_storeA (vs := [.int .i64 1, clo 0 D]) rfl (.tmp 7) (.tmp 28) (by rfl) agg228 (by rfl) (by rfl) rfl (clo_one _ _ _) s7 (by simp) ?_; rintro w8 s8; obtain ⟨e0, e1, _, _⟩ := boxQ s8; unfold clo at e1)
          | (go_at_call 173; refine clear0_c (St.pick 1 s8) ?_; rintro w6 s6))
        go_roundw
        case rel => exact ⟨1, by omega, rfl, by rw [HX.out, clearIf_t]; exact St.sel2 s6⟩
        case measure => simp [intOf]
      | false =>
        go_wp2_with (first
          | (refine wpl_allocA rfl rfl zero228 sr ?_; rintro X w7 s7)
          | (refine wpl_storeA (vs := [.int .i64 1, clo 0 D]) rfl (.tmp 7) (.tmp 28) (by rfl) agg228 (by rfl) (by rfl) rfl (clo_one _ _ _) s7 (by simp) ?_; rintro w8 s8; obtain ⟨e0, e1, _, _⟩ := boxQ s8; unfold clo at e1))
        go_roundw
        case rel => exact ⟨1, by omega, rfl, by rw [HX.out, clearIf_f]; exact St.drop s8⟩
        case measure => simp [intOf]
    | 1, _ =>
      have c0 : wr.cell? ⟨B, 2, none⟩ = some (.int .i64 2) := by have := sT.rowCell (i := 2) rfl; rwa [Nat.zero_add] at this
      have c1 : wr.cell? ⟨B, 3, none⟩ = some (.func (.func 174) #[] #[.pointer (some ⟨D, 0, none⟩)]) := by have := sT.rowCell (i := 3) rfl; rwa [Nat.zero_add] at this
      clear sT
      have hb : (bits BinOp.and IntKind.i64 (fieldsF k) 2 != 0) = bitF k 1 := rfl
      have hN : bareN m k 2 = clearIf (bitF k 1) 1 (bareN m k 1) := rfl
      obtain ⟨f, hf⟩ : ∃ f, bitF k 1 = f := ⟨_, rfl⟩
      rw [hf] at hb hN
      clear hf
      have HX := hid hN
      clear hN
      cases f with
      | true =>
        go_wp2_with (first
          | (refine wpl_allocA rfl rfl zero228 sr ?_; rintro X w7 s7)
          | (refine wpl_storeA (vs := [.int .i64 2, clo 1 D]) rfl (.tmp 7) (.tmp 28) (by rfl) agg228 (by rfl) (by rfl) rfl (clo_one _ _ _) s7 (by simp) ?_; rintro w8 s8; obtain ⟨e0, e1, _, _⟩ := boxQ s8; unfold clo at e1)
          | (go_at_call 174; refine clear1_c (St.pick 1 s8) ?_; rintro w6 s6))
        go_roundw
        case rel => exact ⟨2, by omega, rfl, by rw [HX.out, clearIf_t]; exact St.sel2 s6⟩
        case measure => simp [intOf]
      | false =>
        go_wp2_with (first
          | (refine wpl_allocA rfl rfl zero228 sr ?_; rintro X w7 s7)
          | (refine wpl_storeA (vs := [.int .i64 2, clo 1 D]) rfl (.tmp 7) (.tmp 28) (by rfl) agg228 (by rfl) (by rfl) rfl (clo_one _ _ _) s7 (by simp) ?_; rintro w8 s8; obtain ⟨e0, e1, _, _⟩ := boxQ s8; unfold clo at e1))
        go_roundw
        case rel => exact ⟨2, by omega, rfl, by rw [HX.out, clearIf_f]; exact St.drop s8⟩
        case measure => simp [intOf]
    | 2, _ =>
      have c0 : wr.cell? ⟨B, 4, none⟩ = some (.int .i64 4) := by have := sT.rowCell (i := 4) rfl; rwa [Nat.zero_add] at this
      have c1 : wr.cell? ⟨B, 5, none⟩ = some (.func (.func 175) #[] #[.pointer (some ⟨D, 0, none⟩)]) := by have := sT.rowCell (i := 5) rfl; rwa [Nat.zero_add] at this
      clear sT
      have hb : (bits BinOp.and IntKind.i64 (fieldsF k) 4 != 0) = bitF k 2 := rfl
      have hN : bareN m k 3 = clearIf (bitF k 2) 2 (bareN m k 2) := rfl
      obtain ⟨f, hf⟩ : ∃ f, bitF k 2 = f := ⟨_, rfl⟩
      rw [hf] at hb hN
      clear hf
      have HX := hid hN
      clear hN
      cases f with
      | true =>
        go_wp2_with (first
          | (refine wpl_allocA rfl rfl zero228 sr ?_; rintro X w7 s7)
          | (refine wpl_storeA (vs := [.int .i64 4, clo 2 D]) rfl (.tmp 7) (.tmp 28) (by rfl) agg228 (by rfl) (by rfl) rfl (clo_one _ _ _) s7 (by simp) ?_; rintro w8 s8; obtain ⟨e0, e1, _, _⟩ := boxQ s8; unfold clo at e1)
          | (go_at_call 175; refine clear2_c (St.pick 1 s8) ?_; rintro w6 s6))
        go_roundw
        case rel => exact ⟨3, by omega, rfl, by rw [HX.out, clearIf_t]; exact St.sel2 s6⟩
        case measure => simp [intOf]
      | false =>
        go_wp2_with (first
          | (refine wpl_allocA rfl rfl zero228 sr ?_; rintro X w7 s7)
          | (refine wpl_storeA (vs := [.int .i64 4, clo 2 D]) rfl (.tmp 7) (.tmp 28) (by rfl) agg228 (by rfl) (by rfl) rfl (clo_one _ _ _) s7 (by simp) ?_; rintro w8 s8; obtain ⟨e0, e1, _, _⟩ := boxQ s8; unfold clo at e1))
        go_roundw
        case rel => exact ⟨3, by omega, rfl, by rw [HX.out, clearIf_f]; exact St.drop s8⟩
        case measure => simp [intOf]
    | 3, _ =>
      have c0 : wr.cell? ⟨B, 6, none⟩ = some (.int .i64 8) := by have := sT.rowCell (i := 6) rfl; rwa [Nat.zero_add] at this
      have c1 : wr.cell? ⟨B, 7, none⟩ = some (.func (.func 176) #[] #[.pointer (some ⟨D, 0, none⟩)]) := by have := sT.rowCell (i := 7) rfl; rwa [Nat.zero_add] at this
      clear sT
      have hb : (bits BinOp.and IntKind.i64 (fieldsF k) 8 != 0) = bitF k 3 := rfl
      have hN : bareN m k 4 = clearIf (bitF k 3) 3 (bareN m k 3) := rfl
      obtain ⟨f, hf⟩ : ∃ f, bitF k 3 = f := ⟨_, rfl⟩
      rw [hf] at hb hN
      clear hf
      have HX := hid hN
      clear hN
      cases f with
      | true =>
        go_wp2_with (first
          | (refine wpl_allocA rfl rfl zero228 sr ?_; rintro X w7 s7)
          | (refine wpl_storeA (vs := [.int .i64 8, clo 3 D]) rfl (.tmp 7) (.tmp 28) (by rfl) agg228 (by rfl) (by rfl) rfl (clo_one _ _ _) s7 (by simp) ?_; rintro w8 s8; obtain ⟨e0, e1, _, _⟩ := boxQ s8; unfold clo at e1)
          | (go_at_call 176; refine clear3_c (St.pick 1 s8) ?_; rintro w6 s6))
        go_roundw
        case rel => exact ⟨4, by omega, rfl, by rw [HX.out, clearIf_t]; exact St.sel2 s6⟩
        case measure => simp [intOf]
      | false =>
        go_wp2_with (first
          | (refine wpl_allocA rfl rfl zero228 sr ?_; rintro X w7 s7)
          | (refine wpl_storeA (vs := [.int .i64 8, clo 3 D]) rfl (.tmp 7) (.tmp 28) (by rfl) agg228 (by rfl) (by rfl) rfl (clo_one _ _ _) s7 (by simp) ?_; rintro w8 s8; obtain ⟨e0, e1, _, _⟩ := boxQ s8; unfold clo at e1))
        go_roundw
        case rel => exact ⟨4, by omega, rfl, by rw [HX.out, clearIf_f]; exact St.drop s8⟩
        case measure => simp [intOf]
    | 4, _ =>
      have c0 : wr.cell? ⟨B, 8, none⟩ = some (.int .i64 16) := by have := sT.rowCell (i := 8) rfl; rwa [Nat.zero_add] at this
      have c1 : wr.cell? ⟨B, 9, none⟩ = some (.func (.func 177) #[] #[.pointer (some ⟨D, 0, none⟩)]) := by have := sT.rowCell (i := 9) rfl; rwa [Nat.zero_add] at this
      clear sT
      have hb : (bits BinOp.and IntKind.i64 (fieldsF k) 16 != 0) = bitF k 4 := rfl
      have hN : bareN m k 5 = clearIf (bitF k 4) 4 (bareN m k 4) := rfl
      obtain ⟨f, hf⟩ : ∃ f, bitF k 4 = f := ⟨_, rfl⟩
      rw [hf] at hb hN
      clear hf
      have HX := hid hN
      clear hN
      cases f with
      | true =>
        go_wp2_with (first
          | (refine wpl_allocA rfl rfl zero228 sr ?_; rintro X w7 s7)
          | (refine wpl_storeA (vs := [.int .i64 16, clo 4 D]) rfl (.tmp 7) (.tmp 28) (by rfl) agg228 (by rfl) (by rfl) rfl (clo_one _ _ _) s7 (by simp) ?_; rintro w8 s8; obtain ⟨e0, e1, _, _⟩ := boxQ s8; unfold clo at e1)
          | (go_at_call 177; refine clear4_c (St.pick 1 s8) ?_; rintro w6 s6))
        go_roundw
        case rel => exact ⟨5, by omega, rfl, by rw [HX.out, clearIf_t]; exact St.sel2 s6⟩
        case measure => simp [intOf]
      | false =>
        go_wp2_with (first
          | (refine wpl_allocA rfl rfl zero228 sr ?_; rintro X w7 s7)
          | (refine wpl_storeA (vs := [.int .i64 16, clo 4 D]) rfl (.tmp 7) (.tmp 28) (by rfl) agg228 (by rfl) (by rfl) rfl (clo_one _ _ _) s7 (by simp) ?_; rintro w8 s8; obtain ⟨e0, e1, _, _⟩ := boxQ s8; unfold clo at e1))
        go_roundw
        case rel => exact ⟨5, by omega, rfl, by rw [HX.out, clearIf_f]; exact St.drop s8⟩
        case measure => simp [intOf]
    | 5, _ =>
      have c0 : wr.cell? ⟨B, 10, none⟩ = some (.int .i64 32) := by have := sT.rowCell (i := 10) rfl; rwa [Nat.zero_add] at this
      have c1 : wr.cell? ⟨B, 11, none⟩ = some (.func (.func 178) #[] #[.pointer (some ⟨D, 0, none⟩)]) := by have := sT.rowCell (i := 11) rfl; rwa [Nat.zero_add] at this
      clear sT
      have hb : (bits BinOp.and IntKind.i64 (fieldsF k) 32 != 0) = bitF k 5 := rfl
      have hN : bareN m k 6 = clearIf (bitF k 5) 5 (bareN m k 5) := rfl
      obtain ⟨f, hf⟩ : ∃ f, bitF k 5 = f := ⟨_, rfl⟩
      rw [hf] at hb hN
      clear hf
      have HX := hid hN
      clear hN
      cases f with
      | true =>
        go_wp2_with (first
          | (refine wpl_allocA rfl rfl zero228 sr ?_; rintro X w7 s7)
          | (refine wpl_storeA (vs := [.int .i64 32, clo 5 D]) rfl (.tmp 7) (.tmp 28) (by rfl) agg228 (by rfl) (by rfl) rfl (clo_one _ _ _) s7 (by simp) ?_; rintro w8 s8; obtain ⟨e0, e1, _, _⟩ := boxQ s8; unfold clo at e1)
          | (go_at_call 178; refine clear5_c (St.pick 1 s8) ?_; rintro w6 s6))
        go_roundw
        case rel => exact ⟨6, by omega, rfl, by rw [HX.out, clearIf_t]; exact St.sel2 s6⟩
        case measure => simp [intOf]
      | false =>
        go_wp2_with (first
          | (refine wpl_allocA rfl rfl zero228 sr ?_; rintro X w7 s7)
          | (refine wpl_storeA (vs := [.int .i64 32, clo 5 D]) rfl (.tmp 7) (.tmp 28) (by rfl) agg228 (by rfl) (by rfl) rfl (clo_one _ _ _) s7 (by simp) ?_; rintro w8 s8; obtain ⟨e0, e1, _, _⟩ := boxQ s8; unfold clo at e1))
        go_roundw
        case rel => exact ⟨6, by omega, rfl, by rw [HX.out, clearIf_f]; exact St.drop s8⟩
        case measure => simp [intOf]
    | 6, _ =>
      have c0 : wr.cell? ⟨B, 12, none⟩ = some (.int .i64 64) := by have := sT.rowCell (i := 12) rfl; rwa [Nat.zero_add] at this
      have c1 : wr.cell? ⟨B, 13, none⟩ = some (.func (.func 179) #[] #[.pointer (some ⟨D, 0, none⟩)]) := by have := sT.rowCell (i := 13) rfl; rwa [Nat.zero_add] at this
      clear sT
      have hb : (bits BinOp.and IntKind.i64 (fieldsF k) 64 != 0) = bitF k 6 := rfl
      have hN : bareN m k 7 = clearIf (bitF k 6) 6 (bareN m k 6) := rfl
      obtain ⟨f, hf⟩ : ∃ f, bitF k 6 = f := ⟨_, rfl⟩
      rw [hf] at hb hN
      clear hf
      have HX := hid hN
      clear hN
      cases f with
      | true =>
        go_wp2_with (first
          | (refine wpl_allocA rfl rfl zero228 sr ?_; rintro X w7 s7)
          | (refine wpl_storeA (vs := [.int .i64 64, clo 6 D]) rfl (.tmp 7) (.tmp 28) (by rfl) agg228 (by rfl) (by rfl) rfl (clo_one _ _ _) s7 (by simp) ?_; rintro w8 s8; obtain ⟨e0, e1, _, _⟩ := boxQ s8; unfold clo at e1)
          | (go_at_call 179; refine clear6_c (St.pick 1 s8) ?_; rintro w6 s6))
        go_roundw
        case rel => exact ⟨7, by omega, rfl, by rw [HX.out, clearIf_t]; exact St.sel2 s6⟩
        case measure => simp [intOf]
      | false =>
        go_wp2_with (first
          | (refine wpl_allocA rfl rfl zero228 sr ?_; rintro X w7 s7)
          | (refine wpl_storeA (vs := [.int .i64 64, clo 6 D]) rfl (.tmp 7) (.tmp 28) (by rfl) agg228 (by rfl) (by rfl) rfl (clo_one _ _ _) s7 (by simp) ?_; rintro w8 s8; obtain ⟨e0, e1, _, _⟩ := boxQ s8; unfold clo at e1))
        go_roundw
        case rel => exact ⟨7, by omega, rfl, by rw [HX.out, clearIf_f]; exact St.drop s8⟩
        case measure => simp [intOf]
    | 7, _ =>
      clear sT
      have d10 := boxMf sr 10 (by decide)
      have d11 := boxMf sr 11 (by decide)
      obtain ⟨g0, g1, g2, g3, g4, g5, g6, g7, g8, g9, g10, g11⟩ := boxM sr
      have s9 : St W ((wr.setCell ⟨D, 10, none⟩ (.slice none 0 0)).setCell ⟨D, 11, none⟩ (.slice none 0 0)) (row D 0 (bareM m k).cells :: row B 0 (bareTab D) :: row E 0 zeroM.cells :: row T 0 m.cells :: R) := (sr.rowSet (i := 10) (by simp [MsgV.cells]) (.slice none 0 0)).rowSet (i := 11) (by simp [MsgV.cells]) (.slice none 0 0)
      have lg9 := lg58 s9
      go_wp2_with (refine wpl_storeA (vs := (bareM m k).cells) rfl (.tmp 4) (.tmp 40) (by rfl) agg58 (by rfl) (by rfl) rfl (msg_one _) (St.pick 2 s9) (by simp [zeroM, MsgV.cells]) ?_; rintro w8 s8)
      have hL := run_loadA agg58 (vs := (bareM m k).cells) rfl s8.rowAll
      exact bodyPost_ret (v := .agg (bareM m k).cells.toArray) (by simp [results, Tryz.results142, asAddr, hL, Act.put]) rfl (HK.out _ (s8.dropN 4))
    | n + 8, h => exact absurd h (by omega)
end

end Go.Proofs.YtbpdchaeakihkaaGreat
