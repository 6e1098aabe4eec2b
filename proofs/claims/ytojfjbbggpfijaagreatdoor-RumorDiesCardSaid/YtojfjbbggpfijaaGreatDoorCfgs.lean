/- Cfgs: several texts, joined. The document's configuration (printed by mkOverA.py): least, most, Check, Right. -/
import Derived.Test.YtojfjbbggpfijaaGreatDoorProg
import Derived.Test.YtojfjbbggpfijaaGreatDoorLib
import Derived.Deep.MidRow
import Derived.Deep.RegionHeld3
import Derived.Deep.RegionLaw
import Derived.BigQuiet
namespace Go.Proofs.YtojfjbbggpfijaaGreatDoor
open Go.RowKit Go.Qd

theorem agg23 : AggT Tryz.prog 23 20 := ⟨⟨_, Tryz.underlying23, rfl⟩, by kernel_rfl⟩
theorem agg22 : AggT Tryz.prog 22 20 := ⟨⟨_, Tryz.underlying22, rfl⟩, by kernel_rfl⟩
theorem agg32 : AggT Tryz.prog 36 20 := ⟨⟨_, Tryz.underlying36, rfl⟩, by kernel_rfl⟩

theorem ivs_len20 {c : List Int} (h : c.length = 20) : (ivs c).length = 20 := by rw [ivs_length]; exact h
theorem cfg_at {W w : World} {R : List HP} {T : Nat} {c : List Int} (s : St W w (row T 0 (ivs c) :: R)) {i : Nat} (h : i < c.length) : w.cell? ⟨T, i, none⟩ = some (.int .i64 (c.getD i 0)) := by
  have := s.rowCell (ivs_get h)
  rw [Nat.zero_add] at this
  rw [this]; simp [h]

def leastF (c : List Int) (i : Nat) : Int := if i = 0 then 2 else if i = 3 ∨ i = 8 ∨ i = 16 then 0 else if i = 4 then c.getD 3 0 else if i = 11 then c.getD 10 0 else 1
def mostF (c : List Int) (i : Nat) : Int := if i = 0 then 12 else if i = 2 then c.getD 0 0 else if i = 3 then 2147483647 else if i = 4 then (if c.getD 3 0 = 0 then 0 else 2147483647) else if i = 5 then 6 else if i = 6 then 11
  else if i = 8 then c.getD 7 0 else if i = 7 ∨ i = 9 ∨ i = 15 ∨ i = 17 ∨ i = 18 then 8 else if i = 11 ∨ i = 12 then 64 else if i = 16 then 1 else if i = 19 then 512 else 16
def fineAt (c : List Int) (i : Nat) : Bool := decide (leastF c i ≤ c.getD i 0) && decide (c.getD i 0 ≤ mostF c i)
def rightB (c : List Int) : Bool := (List.range 20).all (fineAt c)
theorem rightB_iff {c : List Int} : rightB c = true ↔ ∀ i, i < 20 → fineAt c i = true := by unfold rightB; simp
theorem fine_lo {c : List Int} {i : Nat} (h : fineAt c i = true) : leastF c i ≤ c.getD i 0 := by unfold fineAt at h; simp at h; simpa using h.1
theorem fine_hi {c : List Int} {i : Nat} (h : fineAt c i = true) : c.getD i 0 ≤ mostF c i := by unfold fineAt at h; simp at h; simpa using h.2

section
variable {W w : World} {R : List HP} {post : Ending → World → Prop} {c : List Int}

set_option maxRecDepth 100000 in
set_option maxHeartbeats 4000000 in
theorem least_c {i : Nat} (st : St W w R) (hc : c.length = 20) (hi : i < 20) (K : ∀ w', St W w' R → post (.returned (.int .i64 (leastF c i))) w') :
    Calls Tryz.prog 74 #[.agg (ivs c).toArray, .int .i64 i] w post := by
  have HK := hid K; clear K
  have HC := hid hc; clear hc
  have hcase : i = 0 ∨ i = 1 ∨ i = 2 ∨ i = 3 ∨ i = 4 ∨ i = 5 ∨ i = 6 ∨ i = 7 ∨ i = 8 ∨ i = 9 ∨ i = 10 ∨ i = 11 ∨ i = 12 ∨ i = 13 ∨ i = 14 ∨ i = 15 ∨ i = 16 ∨ i = 17 ∨ i = 18 ∨ i = 19 := by omega
  clear hi
  rcases hcase with rfl | rfl | rfl | rfl | rfl | rfl | rfl | rfl | rfl | rfl | rfl | rfl | rfl | rfl | rfl | rfl | rfl | rfl | rfl | rfl
  all_goals
    simp only [leastF] at HK
    go_enter Tryz.func74, Tryz.ntmps74
    go_wp2_with (refine wpl_boxA (vs := ivs c) rfl (.tmp 0) rfl rfl st ?_; rintro T w0 s0; have g3 := cfg_at s0 (i := 3) (by rw [HC.out]; omega); have g10 := cfg_at s0 (i := 10) (by rw [HC.out]; omega))
    exact HK.out _ s0.drop

set_option maxRecDepth 100000 in
set_option maxHeartbeats 4000000 in
theorem most_c {i : Nat} (st : St W w R) (hc : c.length = 20) (hi : i < 20) (K : ∀ w', St W w' R → post (.returned (.int .i64 (mostF c i))) w') :
    Calls Tryz.prog 75 #[.agg (ivs c).toArray, .int .i64 i] w post := by
  have HK := hid K; clear K
  have HC := hid hc; clear hc
  have hcase : i = 0 ∨ i = 1 ∨ i = 2 ∨ i = 3 ∨ i = 4 ∨ i = 5 ∨ i = 6 ∨ i = 7 ∨ i = 8 ∨ i = 9 ∨ i = 10 ∨ i = 11 ∨ i = 12 ∨ i = 13 ∨ i = 14 ∨ i = 15 ∨ i = 16 ∨ i = 17 ∨ i = 18 ∨ i = 19 := by omega
  clear hi
  rcases hcase with rfl | rfl | rfl | rfl | rfl | rfl | rfl | rfl | rfl | rfl | rfl | rfl | rfl | rfl | rfl | rfl | rfl | rfl | rfl | rfl
  case inr.inr.inr.inr.inl =>
    by_cases h3 : c.getD 3 0 = 0
    · have e : mostF c 4 = 0 := by unfold mostF; simp only [h3]; rfl
      rw [e] at HK
      clear e
      go_enter Tryz.func75, Tryz.ntmps75
      go_wp2_with (refine wpl_boxA (vs := ivs c) rfl (.tmp 0) rfl rfl st ?_; rintro T w0 s0; have g3 := cfg_at s0 (i := 3) (by rw [HC.out]; omega); rw [h3] at g3)
      exact HK.out _ s0.drop
    · have e : mostF c 4 = 2147483647 := by have h3' : ¬ c[3]?.getD 0 = 0 := (by simpa using h3); simp [mostF, h3']
      rw [e] at HK
      have hb : (c.getD 3 0 == 0) = false := by simpa using h3
      clear e
      obtain ⟨z, hz⟩ : ∃ z, c.getD 3 0 = z := ⟨_, rfl⟩
      rw [hz] at hb
      have HZ := hid hz
      clear h3 hz
      go_enter Tryz.func75, Tryz.ntmps75
      go_wp2_with (refine wpl_boxA (vs := ivs c) rfl (.tmp 0) rfl rfl st ?_; rintro T w0 s0; have g3 := cfg_at s0 (i := 3) (by rw [HC.out]; omega); rw [HZ.out] at g3)
      exact HK.out _ s0.drop
  all_goals
    simp only [mostF] at HK
    go_enter Tryz.func75, Tryz.ntmps75
    go_wp2_with (refine wpl_boxA (vs := ivs c) rfl (.tmp 0) rfl rfl st ?_; rintro T w0 s0; have g0 := cfg_at s0 (i := 0) (by rw [HC.out]; omega); have g3 := cfg_at s0 (i := 3) (by rw [HC.out]; omega); have g7 := cfg_at s0 (i := 7) (by rw [HC.out]; omega))
    exact HK.out _ s0.drop

end

end Go.Proofs.YtojfjbbggpfijaaGreatDoor

/- The document's configuration: Check, Right. -/
namespace Go.Proofs.YtojfjbbggpfijaaGreatDoor
open Go.RowKit Go.Qd

/-- A load of whatever type is ONE step for the walk's simp in this text. -/
theorem execOp_loadAny (t : TypeId) (ρ : Operand → Value) (dst : Option Tmp) (a : Operand) (ty : TypeId) (pos : String) (after : Array Edge) (guard : Option (Nat × Bool)) :
    execOp ρ { dst, op := .load t a, type := ty, pos, after, guard } = (do pure (.value (← loadG t (ρ a)))) := rfl
theorem run_load3 {w : World} {B o : Nat} {v : Value} (h : w.cell? ⟨B, o, none⟩ = some v) : (loadG 3 (.pointer (some ⟨B, o, none⟩))).run Tryz.prog w = .ok v w := by
  unfold loadG
  simp [go_sem, h, Instr.loadAt]
attribute [local go_sem ↓] execOp_loadAny

section
variable {W w : World} {R : List HP} {post : Ending → World → Prop} {c : List Int}

theorem ckS {t B i : Nat} {x : Int} (ht : t = 23) (hc : c.length = 20) (hi : i < 20) (hx : c.getD i 0 = x) (s : St W w (row B 0 (ivs c) :: R)) :
    (loadG t (.pointer (some ⟨B, 0, none⟩))).run Tryz.prog w = .ok (.agg (ivs c).toArray) w ∧ (loadG 3 (.pointer (some ⟨B, i, none⟩))).run Tryz.prog w = .ok (.int .i64 x) w := by
  subst ht
  refine ⟨run_loadG agg23 (ivs_len20 hc) s.rowAll, run_load3 ?_⟩
  rw [← hx]; exact cfg_at s (by rw [hc]; exact hi)
set_option maxRecDepth 100000 in
set_option maxHeartbeats 2000000 in
theorem rcheck_c (st : St W w R) (hc : c.length = 20) (K : ∀ w' i e, St W w' R → (if rightB c then i = (0 : Int) ∧ e = (0 : Int) else e = 14) → post (.returned (.tuple #[.int .i64 i, .int .i64 e])) w') :
    Calls Tryz.prog 32 #[.agg (ivs c).toArray] w post := by
  have HK := hid K; clear K
  have HC := hid hc; clear hc
  go_enter Tryz.func32, Tryz.ntmps32
  go_wp2_with (refine wpl_boxA (vs := ivs c) rfl (.tmp 0) rfl rfl st ?_; rintro T w0 s0)
  go_loopw [4] (fun ii wr => ∃ i : Nat, i ≤ 20 ∧ ii = .int .i64 i ∧ Hid (∀ j, j < i → fineAt c j = true) ∧ St W wr (row T 0 (ivs c) :: R)) (fun ii _ => 20 - (intOf ii).toNat)
  case atStart => exact ⟨0, Nat.zero_le _, rfl, hid (fun _ h => absurd h (by omega)), s0⟩
  case round =>
    obtain ⟨i, hi, rfl, hf, sr⟩ := hrel
    by_cases hlt : i < 20
    · have hi20 : (i : Int) < 20 := by omega
      have s1 := sr.drew
      obtain ⟨x, hx⟩ : ∃ x, c.getD i 0 = x := ⟨_, rfl⟩
      have HX := hid hx
      obtain ⟨lo, hlo⟩ : ∃ lo, leastF c i = lo := ⟨_, rfl⟩
      obtain ⟨up, hup⟩ : ∃ up, mostF c i = up := ⟨_, rfl⟩
      have HL := hid hlo; have HU := hid hup
      have hfine : fineAt c i = (decide (lo ≤ x) && decide (x ≤ up)) := by unfold fineAt; rw [hx, hlo, hup]
      have HFI := hid hfine
      clear hx hlo hup hfine
      by_cases h1 : x < lo
      · have hno : rightB c = false := by
          rw [← Bool.not_eq_true, rightB_iff]
          intro h
          have := h i hlt
          rw [HFI.out] at this
          simp at this; omega
        have HNO := hid hno
        clear hno
        have hb : decide (x < lo) = true := decide_eq_true h1
        go_wp2_with fail
        have hN : Nonempty (Cls fun w' => St W w' (row T 0 (ivs c) :: R)) := Cls.inh s1
        have f1 : ∀ s : Cls fun w' => St W w' (row T 0 (ivs c) :: R), (loadG 23 (.pointer (some ⟨T, 0, none⟩))).run Tryz.prog s.w = .ok (.agg (ivs c).toArray) s.w := fun s => (ckS rfl HC.out hlt HX.out s.h).1
        have f2 : ∀ s : Cls fun w' => St W w' (row T 0 (ivs c) :: R), (loadG 3 (.pointer (some ⟨T, i, none⟩))).run Tryz.prog s.w = .ok (.int .i64 x) s.w := fun s => (ckS rfl HC.out hlt HX.out s.h).2
        refine wp_region_class (fun w' => St W w' (row T 0 (ivs c) :: R)) (by kernel_rfl) (by kernel_rfl) s1 ?_
        repeat (quiet_step ((rename_i s; first
          | (refine least_c s.h HC.out hlt ?_; rintro w2 s2; rw [HL.out]; exact Cls.end _ s2)
          | (refine most_c s.h HC.out hlt ?_; rintro w2 s2; rw [HU.out]; exact Cls.end _ s2))))
        refine wpQuiet_nil ?_
        rintro ⟨w3, s3⟩
        dsimp only
        go_wp2_with fail
        exact HK.out _ i 14 s3.drop (by rw [if_neg (by rw [HNO.out]; decide)])
      · have hb : decide (x < lo) = false := decide_eq_false h1
        by_cases h2 : up < x
        · have hno : rightB c = false := by
            rw [← Bool.not_eq_true, rightB_iff]
            intro h
            have := h i hlt
            rw [HFI.out] at this
            simp at this; omega
          have HNO := hid hno
          clear hno
          have hb2 : decide (up < x) = true := decide_eq_true h2
          go_wp2_with fail
          have hN : Nonempty (Cls fun w' => St W w' (row T 0 (ivs c) :: R)) := Cls.inh s1
          have f1 : ∀ s : Cls fun w' => St W w' (row T 0 (ivs c) :: R), (loadG 23 (.pointer (some ⟨T, 0, none⟩))).run Tryz.prog s.w = .ok (.agg (ivs c).toArray) s.w := fun s => (ckS rfl HC.out hlt HX.out s.h).1
          have f2 : ∀ s : Cls fun w' => St W w' (row T 0 (ivs c) :: R), (loadG 3 (.pointer (some ⟨T, i, none⟩))).run Tryz.prog s.w = .ok (.int .i64 x) s.w := fun s => (ckS rfl HC.out hlt HX.out s.h).2
          refine wp_region_class (fun w' => St W w' (row T 0 (ivs c) :: R)) (by kernel_rfl) (by kernel_rfl) s1 ?_
          repeat (quiet_step ((rename_i s; first
            | (refine least_c s.h HC.out hlt ?_; rintro w2 s2; rw [HL.out]; exact Cls.end _ s2)
            | (refine most_c s.h HC.out hlt ?_; rintro w2 s2; rw [HU.out]; exact Cls.end _ s2))))
          refine wpQuiet_nil ?_
          rintro ⟨w3, s3⟩
          dsimp only
          go_wp2_with fail
          exact HK.out _ i 14 s3.drop (by rw [if_neg (by rw [HNO.out]; decide)])
        · have hb2 : decide (up < x) = false := decide_eq_false h2
          have hok : fineAt c i = true := by rw [HFI.out]; simp; omega
          have HOK := hid hok
          clear hok
          go_wp2_with fail
          have hN : Nonempty (Cls fun w' => St W w' (row T 0 (ivs c) :: R)) := Cls.inh s1
          have f1 : ∀ s : Cls fun w' => St W w' (row T 0 (ivs c) :: R), (loadG 23 (.pointer (some ⟨T, 0, none⟩))).run Tryz.prog s.w = .ok (.agg (ivs c).toArray) s.w := fun s => (ckS rfl HC.out hlt HX.out s.h).1
          have f2 : ∀ s : Cls fun w' => St W w' (row T 0 (ivs c) :: R), (loadG 3 (.pointer (some ⟨T, i, none⟩))).run Tryz.prog s.w = .ok (.int .i64 x) s.w := fun s => (ckS rfl HC.out hlt HX.out s.h).2
          refine wp_region_class (fun w' => St W w' (row T 0 (ivs c) :: R)) (by kernel_rfl) (by kernel_rfl) s1 ?_
          repeat (quiet_step ((rename_i s; first
            | (refine least_c s.h HC.out hlt ?_; rintro w2 s2; rw [HL.out]; exact Cls.end _ s2)
            | (refine most_c s.h HC.out hlt ?_; rintro w2 s2; rw [HU.out]; exact Cls.end _ s2))))
          refine wpQuiet_nil ?_
          rintro ⟨w3, s3⟩
          dsimp only
          go_wp2_with fail
          go_roundw
          case rel => exact ⟨i + 1, by omega, by go_num, hid (fun j hj => by
            rcases Nat.lt_or_ge j i with h | h
            · exact hf.out j h
            · have : j = i := by omega
              rw [this]; exact HOK.out), s3⟩
          case measure => simp [intOf]; omega
    · have hi20 : i = 20 := by omega
      subst hi20
      have HR := hid (show rightB c = true from rightB_iff.2 hf.out)
      go_wp2_with fail
      exact HK.out _ 0 0 sr.drop (by rw [if_pos HR.out]; exact ⟨rfl, rfl⟩)

set_option maxRecDepth 100000 in
set_option maxHeartbeats 1000000 in
theorem right_c (st : St W w R) (hc : c.length = 20) (K : ∀ w', St W w' R → post (.returned (.bool (rightB c))) w') : Calls Tryz.prog 8 #[.agg (ivs c).toArray] w post := by
  have HK := hid K; clear K
  have HC := hid hc; clear hc
  obtain ⟨rb, hrb⟩ : ∃ rb, rightB c = rb := ⟨_, rfl⟩
  rw [hrb] at HK
  have HRB := hid hrb
  clear hrb
  cases rb with
  | true =>
    go_enter Tryz.func8, Tryz.ntmps8
    go_wp2_with (first
      | (refine wpl_boxA (vs := ivs c) rfl (.tmp 0) rfl rfl st ?_; rintro T w0 s0)
      | (refine wpl_loadA (vs := ivs c) rfl (.tmp 1) (by rfl) agg23 (by rfl) (ivs_len20 HC.out) s0.rowAll ?_)
      | (go_at_call 32; refine rcheck_c s0 HC.out ?_; rintro w1 i e s1 he; rw [if_pos HRB.out] at he; obtain ⟨rfl, rfl⟩ := he))
    exact HK.out _ s1.drop
  | false =>
    go_enter Tryz.func8, Tryz.ntmps8
    go_wp2_with (first
      | (refine wpl_boxA (vs := ivs c) rfl (.tmp 0) rfl rfl st ?_; rintro T w0 s0)
      | (refine wpl_loadA (vs := ivs c) rfl (.tmp 1) (by rfl) agg23 (by rfl) (ivs_len20 HC.out) s0.rowAll ?_)
      | (go_at_call 32; refine rcheck_c s0 HC.out ?_; rintro w1 i e s1 he; rw [if_neg (by rw [HRB.out]; decide)] at he; subst he))
    exact HK.out _ s1.drop

end

end Go.Proofs.YtojfjbbggpfijaaGreatDoor

/- setup: a configuration's numbers: Of, places, List. -/
namespace Go.Proofs.YtojfjbbggpfijaaGreatDoor
open Go.RowKit Go.Qd

theorem list20 {c : List Int} (h : c.length = 20) : ∃ a b d e f g i j k l m n o p q r s t u v : Int, c = [a, b, d, e, f, g, i, j, k, l, m, n, o, p, q, r, s, t, u, v] := by
  match c, h with
  | [a, b, d, e, f, g, i, j, k, l, m, n, o, p, q, r, s, t, u, v], _ => exact ⟨a, b, d, e, f, g, i, j, k, l, m, n, o, p, q, r, s, t, u, v, rfl⟩

theorem zero32 (w : World) : (zeroValue 36).run Tryz.prog w = .ok (.agg (ivs (List.replicate 20 0)).toArray) w := by kernel_rfl
theorem zero22 (w : World) : (zeroValue 22).run Tryz.prog w = .ok (.agg (ivs (List.replicate 20 0)).toArray) w := by kernel_rfl

section
variable {W w : World} {R : List HP} {post : Ending → World → Prop} {c : List Int}

theorem cfgs {T : Nat} {x0 x1 x2 x3 x4 x5 x6 x7 x8 x9 x10 x11 x12 x13 x14 x15 x16 x17 x18 x19 : Int} (s : St W w (row T 0 (ivs [x0, x1, x2, x3, x4, x5, x6, x7, x8, x9, x10, x11, x12, x13, x14, x15, x16, x17, x18, x19]) :: R)) :
    w.cell? ⟨T, 0, none⟩ = some (.int .i64 x0) ∧ w.cell? ⟨T, 1, none⟩ = some (.int .i64 x1) ∧ w.cell? ⟨T, 2, none⟩ = some (.int .i64 x2) ∧ w.cell? ⟨T, 3, none⟩ = some (.int .i64 x3) ∧ w.cell? ⟨T, 4, none⟩ = some (.int .i64 x4) ∧ w.cell? ⟨T, 5, none⟩ = some (.int .i64 x5) ∧ w.cell? ⟨T, 6, none⟩ = some (.int .i64 x6) ∧ w.cell? ⟨T, 7, none⟩ = some (.int .i64 x7) ∧ w.cell? ⟨T, 8, none⟩ = some (.int .i64 x8) ∧ w.cell? ⟨T, 9, none⟩ = some (.int .i64 x9) ∧ w.cell? ⟨T, 10, none⟩ = some (.int .i64 x10) ∧ w.cell? ⟨T, 11, none⟩ = some (.int .i64 x11) ∧ w.cell? ⟨T, 12, none⟩ = some (.int .i64 x12) ∧ w.cell? ⟨T, 13, none⟩ = some (.int .i64 x13) ∧ w.cell? ⟨T, 14, none⟩ = some (.int .i64 x14) ∧ w.cell? ⟨T, 15, none⟩ = some (.int .i64 x15) ∧ w.cell? ⟨T, 16, none⟩ = some (.int .i64 x16) ∧ w.cell? ⟨T, 17, none⟩ = some (.int .i64 x17) ∧ w.cell? ⟨T, 18, none⟩ = some (.int .i64 x18) ∧ w.cell? ⟨T, 19, none⟩ = some (.int .i64 x19) :=
  ⟨cfg_at s (i := 0) (by simp), cfg_at s (i := 1) (by simp), cfg_at s (i := 2) (by simp), cfg_at s (i := 3) (by simp), cfg_at s (i := 4) (by simp), cfg_at s (i := 5) (by simp), cfg_at s (i := 6) (by simp), cfg_at s (i := 7) (by simp), cfg_at s (i := 8) (by simp), cfg_at s (i := 9) (by simp), cfg_at s (i := 10) (by simp), cfg_at s (i := 11) (by simp), cfg_at s (i := 12) (by simp), cfg_at s (i := 13) (by simp), cfg_at s (i := 14) (by simp), cfg_at s (i := 15) (by simp), cfg_at s (i := 16) (by simp), cfg_at s (i := 17) (by simp), cfg_at s (i := 18) (by simp), cfg_at s (i := 19) (by simp)⟩

set_option maxRecDepth 100000 in
set_option maxHeartbeats 4000000 in
theorem of_c (st : St W w R) (hc : c.length = 20) (K : ∀ w', St W w' R → post (.returned (.agg (ivs c).toArray)) w') : Calls Tryz.prog 11 #[.agg (ivs c).toArray] w post := by
  have HK := hid K; clear K
  obtain ⟨x0, x1, x2, x3, x4, x5, x6, x7, x8, x9, x10, x11, x12, x13, x14, x15, x16, x17, x18, x19, rfl⟩ := list20 hc
  clear hc
  go_enter Tryz.func11, Tryz.ntmps11
  go_wp2_with (first
    | (refine wpl_boxA (vs := ivs [x0, x1, x2, x3, x4, x5, x6, x7, x8, x9, x10, x11, x12, x13, x14, x15, x16, x17, x18, x19]) rfl (.tmp 0) rfl rfl st ?_; rintro T w0 s0)
    | (refine wpl_allocA rfl rfl zero32 s0 ?_; rintro E w1 s1
       obtain ⟨k0, k1, k2, k3, k4, k5, k6, k7, k8, k9, k10, k11, k12, k13, k14, k15, k16, k17, k18, k19⟩ := cfgs (St.pick 1 s1))
    | (refine wpl_build (v := .agg (ivs [x0, x1, x2, x3, x4, x5, x6, x7, x8, x9, x10, x11, x12, x13, x14, x15, x16, x17, x18, x19]).toArray) rfl rfl (by kernel_rfl) ?_)
    | (refine wpl_storeA (vs := ivs [x0, x1, x2, x3, x4, x5, x6, x7, x8, x9, x10, x11, x12, x13, x14, x15, x16, x17, x18, x19]) rfl (.tmp 2) (.tmp 43) (by rfl) agg32 (by rfl) (by rfl) rfl (ivs_one _) s1 rfl ?_; rintro w2 s2))
  have hL := run_loadA agg32 (ivs_len20 rfl) s2.rowAll
  exact bodyPost_ret (v := .agg (ivs [x0, x1, x2, x3, x4, x5, x6, x7, x8, x9, x10, x11, x12, x13, x14, x15, x16, x17, x18, x19]).toArray) (by simp [results, Tryz.results11, asAddr, hL, Act.put]) rfl (HK.out _ (s2.dropN 2))

/-- Where a configuration's numbers lie. -/
def ptrs (T : Nat) : List Value := (List.range 20).map fun k => .pointer (some ⟨T, k, none⟩)
theorem ptrs_len (T : Nat) : (ptrs T).length = 20 := by simp [ptrs]
theorem ptrs_get {T k : Nat} (h : k < 20) : (ptrs T)[k]? = some (.pointer (some ⟨T, k, none⟩)) := by simp [ptrs, h]
theorem ptrs_one (T : Nat) : ∀ u ∈ ptrs T, u.oneCell' = true := by
  intro u hu; unfold ptrs at hu; obtain ⟨p, _, rfl⟩ := List.mem_map.1 hu; rfl
theorem agg185 : AggT Tryz.prog 236 20 := ⟨⟨_, Tryz.underlying236, rfl⟩, by kernel_rfl⟩
theorem zero185 (w : World) : (zeroValue 236).run Tryz.prog w = .ok (.agg (List.replicate 20 (.pointer none)).toArray) w := by kernel_rfl

set_option maxRecDepth 100000 in
set_option maxHeartbeats 8000000 in
theorem places_c {T : Nat} (st : St W w R) (K : ∀ w', St W w' R → post (.returned (.agg (ptrs T).toArray)) w') : Calls Tryz.prog 121 #[.pointer (some ⟨T, 0, none⟩)] w post := by
  have HK := hid K; clear K
  go_enter Tryz.func121, Tryz.ntmps121
  go_wp2_with (refine wpl_allocA rfl rfl zero185 st ?_; rintro E w1 s1)
  go_still_tail 61, (by kernel_rfl)
  have s2 := s1.drew
  change wpList _ _ _ _ _ w1.drew
  generalize w1.drew = w2 at s2 ⊢
  go_wp2_with (refine wpl_storeA (vs := ptrs T) rfl (.tmp 2) (.tmp 63) (by rfl) agg185 (by rfl) (by rfl) (ptrs_len T) (ptrs_one T) s2 rfl ?_; rintro w3 s3)
  have hL := run_loadA agg185 (ptrs_len T) s3.rowAll
  exact bodyPost_ret (v := .agg (ptrs T).toArray) (by simp [results, Tryz.results121, asAddr, hL, Act.put]) rfl (HK.out _ s3.drop)

theorem takeUp {c : List Int} {i : Nat} (h : i < c.length) (n : Nat) : ((c.take i ++ List.replicate (n + 1) (0 : Int)).set i (c.getD i 0)) = c.take (i + 1) ++ List.replicate n 0 := by
  have hl : (c.take i).length = i := by simp; omega
  rw [List.set_append_right _ _ (by omega), hl, Nat.sub_self, List.replicate_succ, List.set_cons_zero, List.take_succ_eq_append_getElem h, List.append_assoc]
  have e : c.getD i 0 = c[i] := by simp [h]
  rw [e]; rfl

set_option maxRecDepth 100000 in
set_option maxHeartbeats 2000000 in
theorem list_setup_c (st : St W w R) (hc : c.length = 20) (K : ∀ w', St W w' R → post (.returned (.agg (ivs c).toArray)) w') : Calls Tryz.prog 76 #[.agg (ivs c).toArray] w post := by
  have HK := hid K; clear K
  have HC := hid hc; clear hc
  go_enter Tryz.func76, Tryz.ntmps76
  go_wp2_with (first
    | (refine wpl_boxA (vs := ivs c) rfl (.tmp 0) rfl rfl st ?_; rintro T w0 s0)
    | (go_at_call 121; refine places_c s2 ?_; rintro w3 s3)
    | (refine wpl_allocA rfl rfl zero22 s1 ?_; rintro O w2 s2)
    | (refine wpl_allocA rfl rfl zero22 s0 ?_; rintro E w1 s1))
  go_loopw [7] (fun ii wr => ∃ i : Nat, i ≤ 20 ∧ ii = .int .i64 i ∧ St W wr (row O 0 (ivs (c.take i ++ List.replicate (20 - i) 0)) :: row E 0 (ivs (List.replicate 20 0)) :: row T 0 (ivs c) :: R)) (fun ii _ => 20 - (intOf ii).toNat)
  case atStart => exact ⟨0, Nat.zero_le _, rfl, s3⟩
  case round =>
    obtain ⟨i, hi, rfl, sr⟩ := hrel
    by_cases hlt : i < 20
    · have hi20 : (i : Int) < 20 := by omega
      have hcl := HC.out
      have c1 := cfg_at (St.pick 2 sr) (i := i) (by rw [HC.out]; omega)
      have f1 := sr.rowFree (i := i) (by rw [ivs_length]; simp; omega)
      have hl : (c.take i).length = i := by rw [List.length_take, hcl]; omega
      have d1 := sr.rowCell (i := i) (v := iv 0) (by
        rw [show ivs (c.take i ++ List.replicate (20 - i) 0) = ivs (c.take i) ++ ivs (List.replicate (20 - i) 0) from ivs_append _ _, List.getElem?_append_right (by rw [ivs_length, hl]; exact Nat.le_refl _), ivs_length, hl, Nat.sub_self]
        rw [show ivs (List.replicate (20 - i) 0) = List.replicate (20 - i) (iv 0) from by simp [ivs], List.getElem?_replicate, if_pos (by omega)])
      rw [Nat.zero_add] at f1 d1
      have s5 := sr.rowSet (i := i) (by rw [ivs_length]; simp; omega) (.int .i64 (c.getD i 0))
      have hu : (ivs (c.take i ++ List.replicate (20 - i) 0)).set i (.int .i64 (c.getD i 0)) = ivs (c.take (i + 1) ++ List.replicate (20 - (i + 1)) 0) := by
        rw [← takeUp (by rw [HC.out]; omega) (20 - (i + 1)), show 20 - (i + 1) + 1 = 20 - i by omega]
        simp [ivs, List.map_set]
      rw [hu, Nat.zero_add] at s5
      obtain ⟨x, hx⟩ : ∃ x, c.getD i 0 = x := ⟨_, rfl⟩
      rw [hx] at c1 s5
      clear hu hx hcl hl
      go_wp2_with (first
        | (refine wpl_index rfl (.tmp 6) (.tmp 7) rfl (by rfl) (by rfl) (run_index1 Tryz.underlying236 (by kernel_rfl) (by kernel_rfl) hlt (ptrs_get hlt)) ?_))
      go_roundw
      case rel => exact ⟨i + 1, by omega, by go_num, s5⟩
      case measure => simp [intOf]; omega
    · have hi20 : i = 20 := by omega
      subst hi20
      have e : c.take 20 ++ List.replicate (20 - 20) 0 = c := by rw [List.take_of_length_le (by rw [HC.out]; exact Nat.le_refl _)]; simp
      rw [e] at sr
      clear e
      go_wp2_with (first
        | (refine wpl_loadA (vs := ivs c) rfl (.tmp 3) (by rfl) agg22 (by rfl) (ivs_len20 HC.out) sr.rowAll ?_)
        | (refine wpl_storeA (vs := ivs c) rfl (.tmp 2) (.tmp 17) (by rfl) agg22 (by rfl) (by rfl) (ivs_len20 HC.out) (ivs_one _) (St.pick 1 sr) rfl ?_; rintro w5 s5))
      have hL := run_loadA agg22 (ivs_len20 HC.out) s5.rowAll
      exact bodyPost_ret (v := .agg (ivs c).toArray) (by simp [results, Tryz.results76, asAddr, hL, Act.put]) rfl (HK.out _ (s5.dropN 3))

end

end Go.Proofs.YtojfjbbggpfijaaGreatDoor

/- setup: spans, Check (printed by mkOverD.py). -/
namespace Go.Proofs.YtojfjbbggpfijaaGreatDoor
open Go.RowKit Go.Qd

def spansC (c : List Int) : List Value := ((List.range 20).map fun i => [Value.int .i64 (leastF c i), .int .i64 (mostF c i)]).flatten
theorem agg149 : AggT Tryz.prog 173 40 := ⟨⟨_, Tryz.underlying173, rfl⟩, by kernel_rfl⟩
theorem agg148 : AggT Tryz.prog 172 2 := ⟨⟨_, Tryz.underlying172, rfl⟩, by kernel_rfl⟩
theorem zero149 (w : World) : (zeroValue 173).run Tryz.prog w = .ok (.agg (List.replicate 40 (.int .i64 0)).toArray) w := by kernel_rfl

section
variable {W w : World} {R : List HP} {post : Ending → World → Prop} {c : List Int}

theorem boxP {B : Nat} {x y : Value} (s : St W w (row B 0 [x, y] :: R)) : w.cell? ⟨B, 0, none⟩ = some x ∧ w.cell? ⟨B, 1, none⟩ = some y :=
  ⟨s.rowCell (i := 0) rfl, by have := s.rowCell (i := 1) rfl; rwa [Nat.zero_add] at this⟩
theorem spansC_at (c : List Int) {i : Nat} (hi : i < 20) : ((spansC c).drop (i * 2)).take 2 = [.int .i64 (leastF c i), .int .i64 (mostF c i)] := by
  have hcase : i = 0 ∨ i = 1 ∨ i = 2 ∨ i = 3 ∨ i = 4 ∨ i = 5 ∨ i = 6 ∨ i = 7 ∨ i = 8 ∨ i = 9 ∨ i = 10 ∨ i = 11 ∨ i = 12 ∨ i = 13 ∨ i = 14 ∨ i = 15 ∨ i = 16 ∨ i = 17 ∨ i = 18 ∨ i = 19 := by omega
  rcases hcase with rfl | rfl | rfl | rfl | rfl | rfl | rfl | rfl | rfl | rfl | rfl | rfl | rfl | rfl | rfl | rfl | rfl | rfl | rfl | rfl <;> rfl

theorem spans_eq0 {x0 x1 x2 x3 x4 x5 x6 x7 x8 x9 x10 x11 x12 x13 x14 x15 x16 x17 x18 x19 : Int} (h : x3 = 0) : spansC [x0, x1, x2, x3, x4, x5, x6, x7, x8, x9, x10, x11, x12, x13, x14, x15, x16, x17, x18, x19] = [Value.int .i64 2, Value.int .i64 12, Value.int .i64 1, Value.int .i64 16, Value.int .i64 1, Value.int .i64 x0, Value.int .i64 0, Value.int .i64 2147483647, Value.int .i64 0, Value.int .i64 0, Value.int .i64 1, Value.int .i64 6, Value.int .i64 1, Value.int .i64 11, Value.int .i64 1, Value.int .i64 8, Value.int .i64 0, Value.int .i64 x7, Value.int .i64 1, Value.int .i64 8, Value.int .i64 1, Value.int .i64 16, Value.int .i64 x10, Value.int .i64 64, Value.int .i64 1, Value.int .i64 64, Value.int .i64 1, Value.int .i64 16, Value.int .i64 1, Value.int .i64 16, Value.int .i64 1, Value.int .i64 8, Value.int .i64 0, Value.int .i64 1, Value.int .i64 1, Value.int .i64 8, Value.int .i64 1, Value.int .i64 8, Value.int .i64 1, Value.int .i64 512] := by
  subst h; rfl
theorem spans_eq1 {x0 x1 x2 x3 x4 x5 x6 x7 x8 x9 x10 x11 x12 x13 x14 x15 x16 x17 x18 x19 : Int} (h : x3 ≠ 0) : spansC [x0, x1, x2, x3, x4, x5, x6, x7, x8, x9, x10, x11, x12, x13, x14, x15, x16, x17, x18, x19] = [Value.int .i64 2, Value.int .i64 12, Value.int .i64 1, Value.int .i64 16, Value.int .i64 1, Value.int .i64 x0, Value.int .i64 0, Value.int .i64 2147483647, Value.int .i64 x3, Value.int .i64 2147483647, Value.int .i64 1, Value.int .i64 6, Value.int .i64 1, Value.int .i64 11, Value.int .i64 1, Value.int .i64 8, Value.int .i64 0, Value.int .i64 x7, Value.int .i64 1, Value.int .i64 8, Value.int .i64 1, Value.int .i64 16, Value.int .i64 x10, Value.int .i64 64, Value.int .i64 1, Value.int .i64 64, Value.int .i64 1, Value.int .i64 16, Value.int .i64 1, Value.int .i64 16, Value.int .i64 1, Value.int .i64 8, Value.int .i64 0, Value.int .i64 1, Value.int .i64 1, Value.int .i64 8, Value.int .i64 1, Value.int .i64 8, Value.int .i64 1, Value.int .i64 512] := by
  have e : mostF [x0, x1, x2, x3, x4, x5, x6, x7, x8, x9, x10, x11, x12, x13, x14, x15, x16, x17, x18, x19] 4 = 2147483647 := by unfold mostF; simp [h]
  have e2 : spansC [x0, x1, x2, x3, x4, x5, x6, x7, x8, x9, x10, x11, x12, x13, x14, x15, x16, x17, x18, x19] = [Value.int .i64 2, Value.int .i64 12, Value.int .i64 1, Value.int .i64 16, Value.int .i64 1, Value.int .i64 x0, Value.int .i64 0, Value.int .i64 2147483647, Value.int .i64 x3, Value.int .i64 (mostF [x0, x1, x2, x3, x4, x5, x6, x7, x8, x9, x10, x11, x12, x13, x14, x15, x16, x17, x18, x19] 4), Value.int .i64 1, Value.int .i64 6, Value.int .i64 1, Value.int .i64 11, Value.int .i64 1, Value.int .i64 8, Value.int .i64 0, Value.int .i64 x7, Value.int .i64 1, Value.int .i64 8, Value.int .i64 1, Value.int .i64 16, Value.int .i64 x10, Value.int .i64 64, Value.int .i64 1, Value.int .i64 64, Value.int .i64 1, Value.int .i64 16, Value.int .i64 1, Value.int .i64 16, Value.int .i64 1, Value.int .i64 8, Value.int .i64 0, Value.int .i64 1, Value.int .i64 1, Value.int .i64 8, Value.int .i64 1, Value.int .i64 8, Value.int .i64 1, Value.int .i64 512] := rfl
  rw [e2, e]

set_option maxRecDepth 100000 in
set_option maxHeartbeats 4000000 in
theorem spans_c (st : St W w R) (hc : c.length = 20) (K : ∀ w', St W w' R → post (.returned (.agg (spansC c).toArray)) w') : Calls Tryz.prog 77 #[.agg (ivs c).toArray] w post := by
  have HK := hid K; clear K
  obtain ⟨x0, x1, x2, x3, x4, x5, x6, x7, x8, x9, x10, x11, x12, x13, x14, x15, x16, x17, x18, x19, rfl⟩ := list20 hc
  clear hc
  by_cases h3 : x3 = 0
  · rw [spans_eq0 h3] at HK
    have hb2 : (x3 != 0) = false := by simp [h3]
    have HZ := hid h3
    clear h3
    have hone : ∀ u ∈ [Value.int .i64 2, Value.int .i64 12, Value.int .i64 1, Value.int .i64 16, Value.int .i64 1, Value.int .i64 x0, Value.int .i64 0, Value.int .i64 2147483647, Value.int .i64 0, Value.int .i64 0, Value.int .i64 1, Value.int .i64 6, Value.int .i64 1, Value.int .i64 11, Value.int .i64 1, Value.int .i64 8, Value.int .i64 0, Value.int .i64 x7, Value.int .i64 1, Value.int .i64 8, Value.int .i64 1, Value.int .i64 16, Value.int .i64 x10, Value.int .i64 64, Value.int .i64 1, Value.int .i64 64, Value.int .i64 1, Value.int .i64 16, Value.int .i64 1, Value.int .i64 16, Value.int .i64 1, Value.int .i64 8, Value.int .i64 0, Value.int .i64 1, Value.int .i64 1, Value.int .i64 8, Value.int .i64 1, Value.int .i64 8, Value.int .i64 1, Value.int .i64 512], u.oneCell' = true := by simp [Value.oneCell']
    go_enter Tryz.func77, Tryz.ntmps77
    go_wp2_with (first
      | (refine wpl_boxA (vs := ivs [x0, x1, x2, x3, x4, x5, x6, x7, x8, x9, x10, x11, x12, x13, x14, x15, x16, x17, x18, x19]) rfl (.tmp 0) rfl rfl st ?_; rintro T w0 s0)
      | (refine wpl_allocA rfl rfl zero149 s0 ?_; rintro E w1 s1; have s2 := s1.alloc #[.int .i64 0, .int .i64 0] 172; have s3 := s1.alloc #[.int .i64 0, .int .i64 0] 172
         obtain ⟨k0, k1, k2, k3, k4, k5, k6, k7, k8, k9, k10, k11, k12, k13, k14, k15, k16, k17, k18, k19⟩ := cfgs (St.pick 2 s2)
         obtain ⟨q0, q1, q2, q3, q4, q5, q6, q7, q8, q9, q10, q11, q12, q13, q14, q15, q16, q17, q18, q19⟩ := cfgs (St.pick 2 s3)
         obtain ⟨b0, b1⟩ := boxP s2
         obtain ⟨c0, c1⟩ := boxP s3)
      | (refine wpl_build (v := .agg [Value.int .i64 2, Value.int .i64 12, Value.int .i64 1, Value.int .i64 16, Value.int .i64 1, Value.int .i64 x0, Value.int .i64 0, Value.int .i64 2147483647, Value.int .i64 0, Value.int .i64 0, Value.int .i64 1, Value.int .i64 6, Value.int .i64 1, Value.int .i64 11, Value.int .i64 1, Value.int .i64 8, Value.int .i64 0, Value.int .i64 x7, Value.int .i64 1, Value.int .i64 8, Value.int .i64 1, Value.int .i64 16, Value.int .i64 x10, Value.int .i64 64, Value.int .i64 1, Value.int .i64 64, Value.int .i64 1, Value.int .i64 16, Value.int .i64 1, Value.int .i64 16, Value.int .i64 1, Value.int .i64 8, Value.int .i64 0, Value.int .i64 1, Value.int .i64 1, Value.int .i64 8, Value.int .i64 1, Value.int .i64 8, Value.int .i64 1, Value.int .i64 512].toArray) rfl (rfl : _ = Op.build 173 _) (by kernel_rfl) ?_)
      | (refine wpl_storeA (vs := [Value.int .i64 2, Value.int .i64 12, Value.int .i64 1, Value.int .i64 16, Value.int .i64 1, Value.int .i64 x0, Value.int .i64 0, Value.int .i64 2147483647, Value.int .i64 0, Value.int .i64 0, Value.int .i64 1, Value.int .i64 6, Value.int .i64 1, Value.int .i64 11, Value.int .i64 1, Value.int .i64 8, Value.int .i64 0, Value.int .i64 x7, Value.int .i64 1, Value.int .i64 8, Value.int .i64 1, Value.int .i64 16, Value.int .i64 x10, Value.int .i64 64, Value.int .i64 1, Value.int .i64 64, Value.int .i64 1, Value.int .i64 16, Value.int .i64 1, Value.int .i64 16, Value.int .i64 1, Value.int .i64 8, Value.int .i64 0, Value.int .i64 1, Value.int .i64 1, Value.int .i64 8, Value.int .i64 1, Value.int .i64 8, Value.int .i64 1, Value.int .i64 512]) rfl (.tmp 2) (.tmp 37) (by rfl) agg149 (by rfl) (by rfl) rfl hone (St.pick 1 s2) rfl ?_; rintro w5 s5))
    have hL := run_loadA agg149 (vs := [Value.int .i64 2, Value.int .i64 12, Value.int .i64 1, Value.int .i64 16, Value.int .i64 1, Value.int .i64 x0, Value.int .i64 0, Value.int .i64 2147483647, Value.int .i64 0, Value.int .i64 0, Value.int .i64 1, Value.int .i64 6, Value.int .i64 1, Value.int .i64 11, Value.int .i64 1, Value.int .i64 8, Value.int .i64 0, Value.int .i64 x7, Value.int .i64 1, Value.int .i64 8, Value.int .i64 1, Value.int .i64 16, Value.int .i64 x10, Value.int .i64 64, Value.int .i64 1, Value.int .i64 64, Value.int .i64 1, Value.int .i64 16, Value.int .i64 1, Value.int .i64 16, Value.int .i64 1, Value.int .i64 8, Value.int .i64 0, Value.int .i64 1, Value.int .i64 1, Value.int .i64 8, Value.int .i64 1, Value.int .i64 8, Value.int .i64 1, Value.int .i64 512]) rfl s5.rowAll
    exact bodyPost_ret (v := .agg [Value.int .i64 2, Value.int .i64 12, Value.int .i64 1, Value.int .i64 16, Value.int .i64 1, Value.int .i64 x0, Value.int .i64 0, Value.int .i64 2147483647, Value.int .i64 0, Value.int .i64 0, Value.int .i64 1, Value.int .i64 6, Value.int .i64 1, Value.int .i64 11, Value.int .i64 1, Value.int .i64 8, Value.int .i64 0, Value.int .i64 x7, Value.int .i64 1, Value.int .i64 8, Value.int .i64 1, Value.int .i64 16, Value.int .i64 x10, Value.int .i64 64, Value.int .i64 1, Value.int .i64 64, Value.int .i64 1, Value.int .i64 16, Value.int .i64 1, Value.int .i64 16, Value.int .i64 1, Value.int .i64 8, Value.int .i64 0, Value.int .i64 1, Value.int .i64 1, Value.int .i64 8, Value.int .i64 1, Value.int .i64 8, Value.int .i64 1, Value.int .i64 512].toArray) (by simp [results, Tryz.results77, asAddr, hL]) rfl (HK.out _ (s5.dropN 3))
  · rw [spans_eq1 h3] at HK
    have hb : (x3 == 0) = false := by simpa using h3
    have hb2 : (x3 != 0) = true := by simp [h3]
    clear h3
    have hone : ∀ u ∈ [Value.int .i64 2, Value.int .i64 12, Value.int .i64 1, Value.int .i64 16, Value.int .i64 1, Value.int .i64 x0, Value.int .i64 0, Value.int .i64 2147483647, Value.int .i64 x3, Value.int .i64 2147483647, Value.int .i64 1, Value.int .i64 6, Value.int .i64 1, Value.int .i64 11, Value.int .i64 1, Value.int .i64 8, Value.int .i64 0, Value.int .i64 x7, Value.int .i64 1, Value.int .i64 8, Value.int .i64 1, Value.int .i64 16, Value.int .i64 x10, Value.int .i64 64, Value.int .i64 1, Value.int .i64 64, Value.int .i64 1, Value.int .i64 16, Value.int .i64 1, Value.int .i64 16, Value.int .i64 1, Value.int .i64 8, Value.int .i64 0, Value.int .i64 1, Value.int .i64 1, Value.int .i64 8, Value.int .i64 1, Value.int .i64 8, Value.int .i64 1, Value.int .i64 512], u.oneCell' = true := by simp [Value.oneCell']
    go_enter Tryz.func77, Tryz.ntmps77
    go_wp2_with (first
      | (refine wpl_boxA (vs := ivs [x0, x1, x2, x3, x4, x5, x6, x7, x8, x9, x10, x11, x12, x13, x14, x15, x16, x17, x18, x19]) rfl (.tmp 0) rfl rfl st ?_; rintro T w0 s0)
      | (refine wpl_allocA rfl rfl zero149 s0 ?_; rintro E w1 s1; have s2 := s1.alloc #[.int .i64 0, .int .i64 0] 172; have s3 := s1.alloc #[.int .i64 x3, .int .i64 2147483647] 172
         obtain ⟨k0, k1, k2, k3, k4, k5, k6, k7, k8, k9, k10, k11, k12, k13, k14, k15, k16, k17, k18, k19⟩ := cfgs (St.pick 2 s2)
         obtain ⟨q0, q1, q2, q3, q4, q5, q6, q7, q8, q9, q10, q11, q12, q13, q14, q15, q16, q17, q18, q19⟩ := cfgs (St.pick 2 s3)
         obtain ⟨b0, b1⟩ := boxP s2
         obtain ⟨c0, c1⟩ := boxP s3)
      | (refine wpl_build (v := .agg [Value.int .i64 2, Value.int .i64 12, Value.int .i64 1, Value.int .i64 16, Value.int .i64 1, Value.int .i64 x0, Value.int .i64 0, Value.int .i64 2147483647, Value.int .i64 x3, Value.int .i64 2147483647, Value.int .i64 1, Value.int .i64 6, Value.int .i64 1, Value.int .i64 11, Value.int .i64 1, Value.int .i64 8, Value.int .i64 0, Value.int .i64 x7, Value.int .i64 1, Value.int .i64 8, Value.int .i64 1, Value.int .i64 16, Value.int .i64 x10, Value.int .i64 64, Value.int .i64 1, Value.int .i64 64, Value.int .i64 1, Value.int .i64 16, Value.int .i64 1, Value.int .i64 16, Value.int .i64 1, Value.int .i64 8, Value.int .i64 0, Value.int .i64 1, Value.int .i64 1, Value.int .i64 8, Value.int .i64 1, Value.int .i64 8, Value.int .i64 1, Value.int .i64 512].toArray) rfl (rfl : _ = Op.build 173 _) (by kernel_rfl) ?_)
      | (refine wpl_storeA (vs := [Value.int .i64 2, Value.int .i64 12, Value.int .i64 1, Value.int .i64 16, Value.int .i64 1, Value.int .i64 x0, Value.int .i64 0, Value.int .i64 2147483647, Value.int .i64 x3, Value.int .i64 2147483647, Value.int .i64 1, Value.int .i64 6, Value.int .i64 1, Value.int .i64 11, Value.int .i64 1, Value.int .i64 8, Value.int .i64 0, Value.int .i64 x7, Value.int .i64 1, Value.int .i64 8, Value.int .i64 1, Value.int .i64 16, Value.int .i64 x10, Value.int .i64 64, Value.int .i64 1, Value.int .i64 64, Value.int .i64 1, Value.int .i64 16, Value.int .i64 1, Value.int .i64 16, Value.int .i64 1, Value.int .i64 8, Value.int .i64 0, Value.int .i64 1, Value.int .i64 1, Value.int .i64 8, Value.int .i64 1, Value.int .i64 8, Value.int .i64 1, Value.int .i64 512]) rfl (.tmp 2) (.tmp 37) (by rfl) agg149 (by rfl) (by rfl) rfl hone (St.pick 1 s3) rfl ?_; rintro w5 s5))
    have hL := run_loadA agg149 (vs := [Value.int .i64 2, Value.int .i64 12, Value.int .i64 1, Value.int .i64 16, Value.int .i64 1, Value.int .i64 x0, Value.int .i64 0, Value.int .i64 2147483647, Value.int .i64 x3, Value.int .i64 2147483647, Value.int .i64 1, Value.int .i64 6, Value.int .i64 1, Value.int .i64 11, Value.int .i64 1, Value.int .i64 8, Value.int .i64 0, Value.int .i64 x7, Value.int .i64 1, Value.int .i64 8, Value.int .i64 1, Value.int .i64 16, Value.int .i64 x10, Value.int .i64 64, Value.int .i64 1, Value.int .i64 64, Value.int .i64 1, Value.int .i64 16, Value.int .i64 1, Value.int .i64 16, Value.int .i64 1, Value.int .i64 8, Value.int .i64 0, Value.int .i64 1, Value.int .i64 1, Value.int .i64 8, Value.int .i64 1, Value.int .i64 8, Value.int .i64 1, Value.int .i64 512]) rfl s5.rowAll
    exact bodyPost_ret (v := .agg [Value.int .i64 2, Value.int .i64 12, Value.int .i64 1, Value.int .i64 16, Value.int .i64 1, Value.int .i64 x0, Value.int .i64 0, Value.int .i64 2147483647, Value.int .i64 x3, Value.int .i64 2147483647, Value.int .i64 1, Value.int .i64 6, Value.int .i64 1, Value.int .i64 11, Value.int .i64 1, Value.int .i64 8, Value.int .i64 0, Value.int .i64 x7, Value.int .i64 1, Value.int .i64 8, Value.int .i64 1, Value.int .i64 16, Value.int .i64 x10, Value.int .i64 64, Value.int .i64 1, Value.int .i64 64, Value.int .i64 1, Value.int .i64 16, Value.int .i64 1, Value.int .i64 16, Value.int .i64 1, Value.int .i64 8, Value.int .i64 0, Value.int .i64 1, Value.int .i64 1, Value.int .i64 8, Value.int .i64 1, Value.int .i64 8, Value.int .i64 1, Value.int .i64 512].toArray) (by simp [results, Tryz.results77, asAddr, hL]) rfl (HK.out _ (s5.dropN 3))

set_option maxRecDepth 100000 in
set_option maxHeartbeats 2000000 in
theorem scheck_c (st : St W w R) (hc : c.length = 20) (hr : rightB c = true) (K : ∀ w', St W w' R → post (.returned (.tuple #[.int .i64 0, .int .i64 0])) w') : Calls Tryz.prog 35 #[.agg (ivs c).toArray] w post := by
  have HK := hid K; clear K
  have HC := hid hc; have HR := hid (rightB_iff.1 hr); clear hc hr
  go_enter Tryz.func35, Tryz.ntmps35
  go_wp2_with (first
    | (refine wpl_boxA (vs := ivs c) rfl (.tmp 0) rfl rfl st ?_; rintro T w0 s0)
    | (refine wpl_loadA (vs := ivs c) rfl (.tmp 1) (by rfl) agg32 (by rfl) (ivs_len20 HC.out) (St.pick 1 s3).rowAll ?_)
    | (refine wpl_loadA (vs := ivs c) rfl (.tmp 1) (by rfl) agg32 (by rfl) (ivs_len20 HC.out) s0.rowAll ?_)
    | (go_at_call 76; refine list_setup_c s0 HC.out ?_; rintro w1 s1)
    | (refine wpl_allocA rfl rfl zero22 s1 ?_; rintro L w2 s2)
    | (refine wpl_storeA (vs := ivs c) rfl (.tmp 4) (.tmp 8) (by rfl) agg22 (by rfl) (by rfl) (ivs_len20 HC.out) (ivs_one _) s2 rfl ?_; rintro w3 s3)
    | (go_at_call 77; refine spans_c s3 HC.out ?_; rintro w4 s4))
  go_loopw [11] (fun ii wr => ∃ i : Nat, i ≤ 20 ∧ ii = .int .i64 i ∧ St W wr (row L 0 (ivs c) :: row T 0 (ivs c) :: R)) (fun ii _ => 20 - (intOf ii).toNat)
  case atStart => exact ⟨0, Nat.zero_le _, rfl, s4⟩
  case round =>
    obtain ⟨i, hi, rfl, sr⟩ := hrel
    by_cases hlt : i < 20
    · have hi20 : (i : Int) < 20 := by omega
      have hf := HR.out i hlt
      have hlo := fine_lo hf
      have hup := fine_hi hf
      obtain ⟨x, hx⟩ : ∃ x, c.getD i 0 = x := ⟨_, rfl⟩
      have hsp := spansC_at c hlt
      obtain ⟨lo, hl⟩ : ∃ lo, leastF c i = lo := ⟨_, rfl⟩
      obtain ⟨up, hu⟩ : ∃ up, mostF c i = up := ⟨_, rfl⟩
      rw [hx, hl] at hlo
      rw [hx, hu] at hup
      rw [hl, hu] at hsp
      have HSP := hid hsp
      have s5 := sr.alloc #[.int .i64 lo, .int .i64 up] 172
      have c1 := cfg_at (St.pick 1 s5) (i := i) (by rw [HC.out]; omega)
      obtain ⟨b0, b1⟩ := boxP s5
      rw [hx] at c1
      have h1 : decide (x < lo) = false := decide_eq_false (by omega)
      have h2 : decide (up < x) = false := decide_eq_false (by omega)
      clear hf hx hsp hl hu
      go_wp2_with (first
        | (refine wpl_index rfl (.tmp 10) (.tmp 11) rfl (by rfl) (by rfl) (run_index2 Tryz.underlying173 agg148 hlt HSP.out) ?_))
      go_quiet (fail)
      have s6 := s5.drewN nq
      generalize (wr.alloc (.cells #[.int .i64 lo, .int .i64 up] 172)).drewN nq = w6 at s6 ⊢
      go_wp2_with fail
      go_roundw
      case rel => exact ⟨i + 1, by omega, by go_num, s6.drop⟩
      case measure => simp [intOf]; omega
    · have hi20 : i = 20 := by omega
      subst hi20
      go_wp2_with fail
      exact HK.out _ (sr.dropN 2)

end

end Go.Proofs.YtojfjbbggpfijaaGreatDoor

/- A configuration that may not be: the program's Check and New. -/
namespace Go.Proofs.YtojfjbbggpfijaaGreatDoor
open Go.RowKit Go.Qd
section
variable {W w : World} {R : List HP} {post : Ending → World → Prop} {c : List Int}
end
end Go.Proofs.YtojfjbbggpfijaaGreatDoor
