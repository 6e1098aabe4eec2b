/- A mill with at most one rumor: keep, Heat, Hot, echo, Take of an echo. Printed by mkRumB.py. -/
import Derived.Test.YtpjdcijphnkioaaGreatDoorRumA
import Derived.Test.YtpjdcijphnkioaaGreatDoorWires
namespace Go.Proofs.YtpjdcijphnkioaaGreatDoor
open Go.RowKit Go.Qd RepV

theorem Tryz.elem118 : ElemT Tryz.prog 118 142 4 40 := ElemT.mk' Tryz.underlying118 (by kernel_rfl : (Tryz.prog.info? 142).map (fun i => (i.zero, i.size, i.bytes)) = some (some (.agg #[.int .i64 0, .int .i64 0, .string ByteArray.empty, .int .i64 0]), 4, 40)) rfl (by decide) (by simp [Value.cells, Value.oneCell'])
section
variable {W w : World} {R : List HP} {sz n c : Nat} {cs : List Value}
theorem ownSetC {b o i : Nat} {v : Value} (st : St W w (OwnS sz (some ⟨b, o, none⟩) n c cs :: R)) (hl : i < cs.length) (hv : v.oneCell' = true) :
    w.frozen? ⟨b, o + i, none⟩ = false ∧ w.cell? ⟨b, o + i, none⟩ = cs[i]? ∧ St W (w.setCell ⟨b, o + i, none⟩ v) (OwnS sz (some ⟨b, o, none⟩) n c (cs.set i v) :: R) := by
  obtain ⟨sp, p, s⟩ := OwnS.open st
  have s1 : St W w (row b o (cs ++ sp) :: R) := s
  have hi2 : i < (cs ++ sp).length := by rw [List.length_append]; omega
  refine ⟨s1.rowFree hi2, ?_, ?_⟩
  · have := s1.rowCell (i := i) (v := cs[i]) (by rw [List.getElem?_append_left hl, List.getElem?_eq_getElem hl])
    rw [this, List.getElem?_eq_getElem hl]
  · have s2 := s1.rowSet hi2 v
    have e2 : (cs ++ sp).set i v = cs.set i v ++ sp := by rw [List.set_append_left _ _ hl]
    rw [e2] at s2
    refine OwnS.close (sp := sp) ⟨by rw [List.length_set]; exact p.len, p.spare, p.le, p.max, by simp, fun _ => ⟨_, _, rfl⟩, ?_⟩ s2
    intro u hu
    rcases List.mem_or_eq_of_mem_set hu with g | g
    · exact p.one u g
    · rw [g]; exact hv
end
def bTk (x : Value) : Sem Value := Instr.build 142 #[(0, x)]
theorem execOp_bTk (ρ : Operand → Value) (dst : Option Tmp) (x : Operand) (ty : TypeId) (pos : String) (after : Array Edge) (guard : Option (Nat × Bool)) :
    execOp ρ { dst, op := .build 142 #[(0, x)], type := ty, pos, after, guard } = (do pure (.value (← bTk (ρ x)))) := by simp [execOp, bTk]
theorem run_bTk (m : MkV) (w : World) : (bTk (.agg m.cells.toArray)).run Tryz.prog w = .ok (.agg (TkV.cells ⟨m, 0⟩).toArray) w := by kernel_rfl
def bsTk (x : Value) : Sem Value := Instr.buildSlice 118 1 #[(0, x)]
theorem execOp_bsTk (ρ : Operand → Value) (dst : Option Tmp) (x : Operand) (ty : TypeId) (pos : String) (after : Array Edge) (guard : Option (Nat × Bool)) :
    execOp ρ { dst, op := .buildSlice 118 1 #[(0, x)], type := ty, pos, after, guard } = (do pure (.value (← bsTk (ρ x)))) := by simp [execOp, bsTk]
theorem run_bsTk (x : TkV) (w : World) : (bsTk (.agg x.cells.toArray)).run Tryz.prog w = .ok (.slice (some ⟨w.heap.size, 0, none⟩) 1 1) (w.alloc (.cells x.cells.toArray 142)) := by kernel_rfl
theorem execOp_ldEn (ρ : Operand → Value) (dst : Option Tmp) (a : Operand) (ty : TypeId) (pos : String) (after : Array Edge) (guard : Option (Nat × Bool)) :
    execOp ρ { dst, op := .load 66 a, type := ty, pos, after, guard } = (do pure (.value (← loadG 66 (ρ a)))) := rfl

/-- A predicate's value over rumors: what it tells of one; it leaves all as it was. -/
def PredT (W : World) (A : HP) (F : Nat) (v : Value) (x : TkV) (t : Bool) : Prop :=
  ∀ (R' : List HP) (w1 : World) (p1 : Ending → World → Prop), St W w1 (A :: R') → (∀ w2, St W w2 (A :: R') → p1 (.returned (.bool t)) w2) → Calls Tryz.prog F #[.agg x.cells.toArray, v] w1 p1
section
variable {W w : World} {R : List HP} {post : Ending → World → Prop} {c : List Int} {b rp dp : Nat}

theorem idxT0_c {a : Option Addr} {cp : Nat} {v : Value} (K : post (.returned (.int .i64 (-1))) w) : Calls Tryz.prog 92 #[.slice a 0 cp, v] w post := by
  have HK := hid K; clear K
  go_enter Tryz.func92, Tryz.ntmps92
  go_wp2_with fail
  go_loopw [8] (fun ii wr => ii = .int .i64 0 ∧ wr = w) (fun _ _ => 0)
  case atStart => exact ⟨rfl, rfl⟩
  case round =>
    obtain ⟨rfl, rfl⟩ := hrel
    go_wp2_with fail
    exact HK.out

section
attribute [local go_sem ↓] execOp_ldAny
set_option maxRecDepth 100000 in
set_option maxHeartbeats 4000000 in
theorem idxKeep_yes {g o cp : Nat} {x : TkV} {v : Value} {A : HP} (hf : PredT W A 82 v x true)
    (st : St W w (OwnS 4 (some ⟨g, o, none⟩) 1 cp x.cells :: A :: R)) (K : ∀ w', St W w' (OwnS 4 (some ⟨g, o, none⟩) 1 cp x.cells :: A :: R) → post (.returned (.int .i64 0)) w') :
    Calls Tryz.prog 92 #[.slice (some ⟨g, o, none⟩) 1 cp, .func (.func 82) #[] #[v]] w post := by
  have HK := hid K; clear K
  have HF := hid hf; clear hf
  have l0 := run_loadG agg_tk (vs := x.cells) rfl (fun j u hu => (OwnS.rd st).at hu)
  go_enter Tryz.func92, Tryz.ntmps92
  go_wp2_with fail
  go_loopw [8] (fun ii wr => ii = .int .i64 0 ∧ wr = w) (fun _ _ => 0)
  case atStart => exact ⟨rfl, rfl⟩
  case round =>
    obtain ⟨rfl, rfl⟩ := hrel
    go_wp2_with (go_at_call 82; refine HF.out _ _ _ (St.pick 1 st) ?_; rintro w2 s2)
    exact HK.out _ (St.pick 1 s2)
end

section
attribute [local go_sem ↓] execOp_ldAny
set_option maxRecDepth 100000 in
set_option maxHeartbeats 4000000 in
theorem idxEcho_yes {g o cp : Nat} {x : TkV} {v : Value} {A : HP} (hf : PredT W A 93 v x true)
    (st : St W w (OwnS 4 (some ⟨g, o, none⟩) 1 cp x.cells :: A :: R)) (K : ∀ w', St W w' (OwnS 4 (some ⟨g, o, none⟩) 1 cp x.cells :: A :: R) → post (.returned (.int .i64 0)) w') :
    Calls Tryz.prog 92 #[.slice (some ⟨g, o, none⟩) 1 cp, .func (.func 93) #[] #[v]] w post := by
  have HK := hid K; clear K
  have HF := hid hf; clear hf
  have l0 := run_loadG agg_tk (vs := x.cells) rfl (fun j u hu => (OwnS.rd st).at hu)
  go_enter Tryz.func92, Tryz.ntmps92
  go_wp2_with fail
  go_loopw [8] (fun ii wr => ii = .int .i64 0 ∧ wr = w) (fun _ _ => 0)
  case atStart => exact ⟨rfl, rfl⟩
  case round =>
    obtain ⟨rfl, rfl⟩ := hrel
    go_wp2_with (go_at_call 93; refine HF.out _ _ _ (St.pick 1 st) ?_; rintro w2 s2)
    exact HK.out _ (St.pick 1 s2)
end

theorem delT0_c {f : Value} (K : post (.returned (.slice none 0 0)) w) : Calls Tryz.prog 81 #[.slice none 0 0, f] w post := by
  have HK := hid K; clear K
  go_enter Tryz.func81, Tryz.ntmps81
  go_wp2_with (go_at_call 92; refine idxT0_c ?_)
  exact HK.out
set_option maxRecDepth 100000 in
set_option maxHeartbeats 4000000 in
theorem delT1_c {g o cp : Nat} {x : TkV} {v : Value} {A : HP} (hf : PredT W A 82 v x true)
    (st : St W w (OwnS 4 (some ⟨g, o, none⟩) 1 cp x.cells :: A :: R)) (K : ∀ w', St W w' (OwnS 4 (some ⟨g, o, none⟩) 0 cp [] :: A :: R) → post (.returned (.slice (some ⟨g, o, none⟩) 0 cp)) w') :
    Calls Tryz.prog 81 #[.slice (some ⟨g, o, none⟩) 1 cp, .func (.func 82) #[] #[v]] w post := by
  have HK := hid K; clear K
  have HF := hid hf; clear hf
  have hle : 1 ≤ cp := (OwnS.rd st).le
  obtain ⟨ax, cx, ht, hs1⟩ := run_slice_from (P := Tryz.prog) Tryz.elem118 (some ⟨g, o, none⟩) 1 cp 0 1 (i := 0) rfl rfl
  have hs2 := run_slice_to (P := Tryz.prog) Tryz.elem118 (some ⟨g, o, none⟩) 1 cp 0 (Nat.zero_le _)
  have HT := hid ht; have HLE := hid hle
  clear ht hle
  go_enter Tryz.func81, Tryz.ntmps81
  go_wp2_with (go_at_call 92; refine idxKeep_yes HF.out st ?_; rintro w2 s2)
  go_loopw [5, 6] (fun ii jj wr => ii = .int .i64 0 ∧ jj = .int .i64 1 ∧ wr = w2) (fun _ _ _ => 0)
  case atStart => exact ⟨rfl, rfl, rfl⟩
  case round =>
    obtain ⟨rfl, rfl, rfl⟩ := hrel
    have s3 : St W wr (OwnS 4 (some ⟨g, o, none⟩) 0 cp [] :: A :: R) := OwnS.short s2 (Nat.zero_le _)
    go_wp2_with (refine wpl_clear rfl _ rfl Tryz.elem118 rfl s3 (by have := HLE.out; omega) HT.out ?_; rintro w4 s4)
    exact HK.out _ s4

/-- keep's own predicate, where what is asked tells no. -/
theorem keep1_no {P : Nat} {x : TkV} {v : Value} {A : HP} (hf : PredT W A 94 v x false) : PredT W (sepL [row P 0 [.func (.func 94) #[] #[v]], A]) 82 (.pointer (some ⟨P, 0, none⟩)) x true := by
  intro R' w1 p1 s0 K
  have HK := hid K; clear K
  have HF := hid hf; clear hf
  have st : St W w1 (row P 0 [.func (.func 94) #[] #[v]] :: A :: R') := (St.flat [row P 0 [.func (.func 94) #[] #[v]], A]).1 s0
  have hL : x.cells.length = 4 := rfl
  go_enter Tryz.func82, Tryz.ntmps82
  go_wp2_with (first
    | (refine wpl_boxA (vs := x.cells) rfl (.tmp 0) rfl rfl st ?_; rintro T w2 s2; have c0 := row1c (St.pick 1 s2))
    | (refine wpl_loadA (vs := x.cells) rfl (.tmp 2) (by rfl) agg_tk (by rfl) rfl s2.rowAll ?_)
    | (go_at_call 94; refine HF.out _ _ _ (St.pick 2 s2) ?_; rintro w3 s3))
  exact HK.out _ ((St.flat [row P 0 [.func (.func 94) #[] #[v]], A]).2 ((s3.pick 1).drop.pick 1))

/-- echo's second predicate: did too many know it? -/
theorem echo2_no {M n cp : Nat} {x : TkV} {a : Option Addr} (hc : c.length = 20) (hx : c.getD 15 0 ≤ x.n) : PredT W (sepL [row M 0 [.pointer (some ⟨b, 0, none⟩)], row b 0 (millC rp c dp a n cp)]) 94 (.pointer (some ⟨M, 0, none⟩)) x false := by
  intro R' w1 p1 s0 K
  have HK := hid K; clear K
  have st : St W w1 (row M 0 [.pointer (some ⟨b, 0, none⟩)] :: row b 0 (millC rp c dp a n cp) :: R') := (St.flat [row M 0 [.pointer (some ⟨b, 0, none⟩)], row b 0 (millC rp c dp a n cp)]).1 s0
  obtain ⟨z, hz⟩ : ∃ z, c.getD 15 0 = z := ⟨_, rfl⟩
  rw [hz] at hx
  have d1 : decide (x.n < z) = false := decide_eq_false (by omega)
  have HC := hid hc; have HZ := hid hz
  clear hc hz hx
  go_enter Tryz.func94, Tryz.ntmps94
  go_wp2_with (refine wpl_boxA (vs := x.cells) rfl (.tmp 0) rfl rfl st ?_; rintro T w2 s2; have c0 := row1c (St.pick 1 s2); have c1 : w2.cell? ⟨b, 16, none⟩ = some (.int .i64 z) := (by have := mill_cfg HC.out (St.pick 2 s2) (i := 15) (by decide); rw [HZ.out] at this; exact this); have c2 : w2.cell? ⟨T, 3, none⟩ = some (.int .i64 x.n) := (by have := s2.rowCell (i := 3) (v := .int .i64 x.n) rfl; rwa [Nat.zero_add] at this))
  go_quiet (fail)
  have s3 := s2.drewN nq
  generalize w2.drewN nq = w3 at s3 ⊢
  go_wp2_with fail
  exact HK.out _ ((St.flat [row M 0 [.pointer (some ⟨b, 0, none⟩)], row b 0 (millC rp c dp a n cp)]).2 s3.drop)

section
attribute [local go_sem ↓] execOp_ldAny execOp_eqM
/-- echo's first predicate: the same mark. -/
theorem echo1_is {M : Nat} {x : TkV} : PredT W (row M 0 x.m.cells) 93 (.pointer (some ⟨M, 0, none⟩)) x true := by
  intro R' w1 p1 st K
  have HK := hid K; clear K
  have gE : ∀ (y z : Operand) (w : World), (eqMG y z (.agg x.m.cells.toArray) (.agg x.m.cells.toArray)).run Tryz.prog w = .ok (.bool true) w := by
    intro y z w
    unfold eqMG MkV.cells
    go_simp
  go_enter Tryz.func93, Tryz.ntmps93
  go_wp2_with (refine wpl_boxA (vs := x.cells) rfl (.tmp 0) rfl rfl st ?_; rintro T w2 s2; have l0 := run_loadG agg54 (vs := x.m.cells) rfl (St.rowPart s2 0 (xs := x.m.cells) (ys := [.int .i64 x.n]) rfl); have l1 := run_loadG agg54 (vs := x.m.cells) rfl (St.pick 1 s2).rowAll)
  exact HK.out _ s2.drop
end
end
end Go.Proofs.YtpjdcijphnkioaaGreatDoor
