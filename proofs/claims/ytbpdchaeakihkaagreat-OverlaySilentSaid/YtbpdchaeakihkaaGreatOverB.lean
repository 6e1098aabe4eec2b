/- The document's configuration: Check, Right. -/
import Derived.Test.YtbpdchaeakihkaaGreatOverA
import Derived.Test.YtbpdchaeakihkaaGreatClass
namespace Go.Proofs.YtbpdchaeakihkaaGreat
open Go.RowKit Go.Qd

/-- A load of whatever type is ONE step for the walk's simp in this text. -/
theorem execOp_loadAny (t : TypeId) (ρ : Operand → Value) (dst : Option Tmp) (a : Operand) (ty : TypeId) (pos : String) (after : Array Edge) (guard : Option (Nat × Bool)) :
    execOp ρ { dst, op := .load t a, type := ty, pos, after, guard } = (do pure (.value (← loadG t (ρ a)))) := rfl
theorem run_load3 {w : World} {B o : Nat} {v : Value} (h : w.cell? ⟨B, o, none⟩ = some v) : (loadG 3 (.pointer (some ⟨B, o, none⟩))).run Tryz.prog w = .ok v w := by
  unfold loadG
  simp [go_sem, h, Instr.loadAt]
attribute [local go_sem ↓] execOp_loadAny

section
variable {W w : World} {R : List HP} {post : Ending → World → Prop} {c : List Int}

theorem ckS {t B i : Nat} {x : Int} (ht : t = 23) (hc : c.length = 20) (hi : i < 20) (hx : c.getD i 0 = x) (s : St W w (row B 0 (ivs c) :: R)) :
    (loadG t (.pointer (some ⟨B, 0, none⟩))).run Tryz.prog w = .ok (.agg (ivs c).toArray) w ∧ (loadG 3 (.pointer (some ⟨B, i, none⟩))).run Tryz.prog w = .ok (.int .i64 x) w := by
  subst ht
  refine ⟨run_loadG agg23 (ivs_len20 hc) s.rowAll, run_load3 ?_⟩
  rw [← hx]; exact cfg_at s (by rw [hc]; exact hi)
theorem lg23 {B : Nat} (hc : c.length = 20) (s : St W w (row B 0 (ivs c) :: R)) : (loadG 23 (.pointer (some ⟨B, 0, none⟩))).run Tryz.prog w = .ok (.agg (ivs c).toArray) w := run_loadG agg23 (ivs_len20 hc) s.rowAll

/-- What the document's Check tells. -/
def checkF (c : List Int) : Option Nat := (List.range 20).find? (fun i => !fineAt c i)

set_option maxRecDepth 100000 in
set_option maxHeartbeats 2000000 in
theorem rcheck_c (st : St W w R) (hc : c.length = 20) (K : ∀ w' i e, St W w' R → (if rightB c then i = (0 : Int) ∧ e = (0 : Int) else e = 14) → post (.returned (.tuple #[.int .i64 i, .int .i64 e])) w') :
    Calls Tryz.prog 38 #[.agg (ivs c).toArray] w post := by
  have HK := hid K; clear K
  have HC := hid hc; clear hc
  go_enter Tryz.func38, Tryz.ntmps38
  go_wp2_with (refine wpl_boxA (vs := ivs c) rfl (.tmp 0) rfl rfl st ?_; rintro T w0 s0)
  go_loopw [4] (fun ii wr => ∃ i : Nat, i ≤ 20 ∧ ii = .int .i64 i ∧ Hid (∀ j, j < i → fineAt c j = true) ∧ St W wr (row T 0 (ivs c) :: R)) (fun ii _ => 20 - (intOf ii).toNat)
  case atStart => exact ⟨0, Nat.zero_le _, rfl, hid (fun _ h => absurd h (by omega)), s0⟩
  case round =>
    obtain ⟨i, hi, rfl, hf, sr⟩ := hrel
    by_cases hlt : i < 20
    · have hi20 : (i : Int) < 20 := by omega
      have s1 := sr.drew
      obtain ⟨x, hx⟩ : ∃ x, c.getD i 0 = x := ⟨_, rfl⟩
      have HX := hid hx
      obtain ⟨lo, hlo⟩ : ∃ lo, leastF c i = lo := ⟨_, rfl⟩
      obtain ⟨up, hup⟩ : ∃ up, mostF c i = up := ⟨_, rfl⟩
      have HL := hid hlo; have HU := hid hup
      have hfine : fineAt c i = (decide (lo ≤ x) && decide (x ≤ up)) := by unfold fineAt; rw [hx, hlo, hup]
      have HFI := hid hfine
      clear hx hlo hup hfine
      by_cases h1 : x < lo
      · have hno : rightB c = false := by
          rw [← Bool.not_eq_true, rightB_iff]
          intro h
          have := h i hlt
          rw [HFI.out] at this
          simp at this; omega
        have HNO := hid hno
        clear hno
        have hb : decide (x < lo) = true := decide_eq_true h1
        go_wp2_with fail
        have hN : Nonempty (Cls fun w' => St W w' (row T 0 (ivs c) :: R)) := Cls.inh s1
        have f1 : ∀ s : Cls fun w' => St W w' (row T 0 (ivs c) :: R), (loadG 23 (.pointer (some ⟨T, 0, none⟩))).run Tryz.prog s.w = .ok (.agg (ivs c).toArray) s.w := fun s => (ckS rfl HC.out hlt HX.out s.h).1
        have f2 : ∀ s : Cls fun w' => St W w' (row T 0 (ivs c) :: R), (loadG 3 (.pointer (some ⟨T, i, none⟩))).run Tryz.prog s.w = .ok (.int .i64 x) s.w := fun s => (ckS rfl HC.out hlt HX.out s.h).2
        refine wp_region_class (fun w' => St W w' (row T 0 (ivs c) :: R)) (by kernel_rfl) (by kernel_rfl) s1 ?_
        repeat (quiet_step ((rename_i s; first
          | (refine least_c s.h HC.out hlt ?_; rintro w2 s2; rw [HL.out]; exact Cls.end _ s2)
          | (refine most_c s.h HC.out hlt ?_; rintro w2 s2; rw [HU.out]; exact Cls.end _ s2))))
        refine wpQuiet_nil ?_
        rintro ⟨w3, s3⟩
        dsimp only
        go_wp2_with fail
        exact HK.out _ i 14 s3.drop (by rw [if_neg (by rw [HNO.out]; decide)])
      · have hb : decide (x < lo) = false := decide_eq_false h1
        by_cases h2 : up < x
        · have hno : rightB c = false := by
            rw [← Bool.not_eq_true, rightB_iff]
            intro h
            have := h i hlt
            rw [HFI.out] at this
            simp at this; omega
          have HNO := hid hno
          clear hno
          have hb2 : decide (up < x) = true := decide_eq_true h2
          go_wp2_with fail
          have hN : Nonempty (Cls fun w' => St W w' (row T 0 (ivs c) :: R)) := Cls.inh s1
          have f1 : ∀ s : Cls fun w' => St W w' (row T 0 (ivs c) :: R), (loadG 23 (.pointer (some ⟨T, 0, none⟩))).run Tryz.prog s.w = .ok (.agg (ivs c).toArray) s.w := fun s => (ckS rfl HC.out hlt HX.out s.h).1
          have f2 : ∀ s : Cls fun w' => St W w' (row T 0 (ivs c) :: R), (loadG 3 (.pointer (some ⟨T, i, none⟩))).run Tryz.prog s.w = .ok (.int .i64 x) s.w := fun s => (ckS rfl HC.out hlt HX.out s.h).2
          refine wp_region_class (fun w' => St W w' (row T 0 (ivs c) :: R)) (by kernel_rfl) (by kernel_rfl) s1 ?_
          repeat (quiet_step ((rename_i s; first
            | (refine least_c s.h HC.out hlt ?_; rintro w2 s2; rw [HL.out]; exact Cls.end _ s2)
            | (refine most_c s.h HC.out hlt ?_; rintro w2 s2; rw [HU.out]; exact Cls.end _ s2))))
          refine wpQuiet_nil ?_
          rintro ⟨w3, s3⟩
          dsimp only
          go_wp2_with fail
          exact HK.out _ i 14 s3.drop (by rw [if_neg (by rw [HNO.out]; decide)])
        · have hb2 : decide (up < x) = false := decide_eq_false h2
          have hok : fineAt c i = true := by rw [HFI.out]; simp; omega
          have HOK := hid hok
          clear hok
          go_wp2_with fail
          have hN : Nonempty (Cls fun w' => St W w' (row T 0 (ivs c) :: R)) := Cls.inh s1
          have f1 : ∀ s : Cls fun w' => St W w' (row T 0 (ivs c) :: R), (loadG 23 (.pointer (some ⟨T, 0, none⟩))).run Tryz.prog s.w = .ok (.agg (ivs c).toArray) s.w := fun s => (ckS rfl HC.out hlt HX.out s.h).1
          have f2 : ∀ s : Cls fun w' => St W w' (row T 0 (ivs c) :: R), (loadG 3 (.pointer (some ⟨T, i, none⟩))).run Tryz.prog s.w = .ok (.int .i64 x) s.w := fun s => (ckS rfl HC.out hlt HX.out s.h).2
          refine wp_region_class (fun w' => St W w' (row T 0 (ivs c) :: R)) (by kernel_rfl) (by kernel_rfl) s1 ?_
          repeat (quiet_step ((rename_i s; first
            | (refine least_c s.h HC.out hlt ?_; rintro w2 s2; rw [HL.out]; exact Cls.end _ s2)
            | (refine most_c s.h HC.out hlt ?_; rintro w2 s2; rw [HU.out]; exact Cls.end _ s2))))
          refine wpQuiet_nil ?_
          rintro ⟨w3, s3⟩
          dsimp only
          go_wp2_with fail
          go_roundw
          case rel => exact ⟨i + 1, by omega, by go_num, hid (fun j hj => by
            rcases Nat.lt_or_ge j i with h | h
            · exact hf.out j h
            · have : j = i := by omega
              rw [this]; exact HOK.out), s3⟩
          case measure => simp [intOf]; omega
    · have hi20 : i = 20 := by omega
      subst hi20
      have HR := hid (show rightB c = true from rightB_iff.2 hf.out)
      go_wp2_with fail
      exact HK.out _ 0 0 sr.drop (by rw [if_pos HR.out]; exact ⟨rfl, rfl⟩)

set_option maxRecDepth 100000 in
set_option maxHeartbeats 1000000 in
theorem right_c (st : St W w R) (hc : c.length = 20) (K : ∀ w', St W w' R → post (.returned (.bool (rightB c))) w') : Calls Tryz.prog 11 #[.agg (ivs c).toArray] w post := by
  have HK := hid K; clear K
  have HC := hid hc; clear hc
  obtain ⟨rb, hrb⟩ : ∃ rb, rightB c = rb := ⟨_, rfl⟩
  rw [hrb] at HK
  have HRB := hid hrb
  clear hrb
  cases rb with
  | true =>
    go_enter Tryz.func11, Tryz.ntmps11
    go_wp2_with (first
      | (refine wpl_boxA (vs := ivs c) rfl (.tmp 0) rfl rfl st ?_; rintro T w0 s0)
      | (refine wpl_loadA (vs := ivs c) rfl (.tmp 1) (by rfl) agg23 (by rfl) (ivs_len20 HC.out) s0.rowAll ?_)
      | (go_at_call 38; refine rcheck_c s0 HC.out ?_; rintro w1 i e s1 he; rw [if_pos HRB.out] at he; obtain ⟨rfl, rfl⟩ := he))
    exact HK.out _ s1.drop
  | false =>
    go_enter Tryz.func11, Tryz.ntmps11
    go_wp2_with (first
      | (refine wpl_boxA (vs := ivs c) rfl (.tmp 0) rfl rfl st ?_; rintro T w0 s0)
      | (refine wpl_loadA (vs := ivs c) rfl (.tmp 1) (by rfl) agg23 (by rfl) (ivs_len20 HC.out) s0.rowAll ?_)
      | (go_at_call 38; refine rcheck_c s0 HC.out ?_; rintro w1 i e s1 he; rw [if_neg (by rw [HRB.out]; decide)] at he; subst he))
    exact HK.out _ s1.drop

end

end Go.Proofs.YtbpdchaeakihkaaGreat
