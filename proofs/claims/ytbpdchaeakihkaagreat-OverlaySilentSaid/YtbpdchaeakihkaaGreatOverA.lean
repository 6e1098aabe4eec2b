/- The document's configuration (printed by mkOverA.py): least, most, Check, Right. -/
import Derived.Test.YtbpdchaeakihkaaGreatViewsE
import Derived.Test.YtbpdchaeakihkaaGreatAgg
import Derived.Test.YtbpdchaeakihkaaGreatGuard
import Derived.Deep.MidRow
import Derived.Deep.RegionHeld3
import Derived.Deep.RegionLaw
namespace Go.Proofs.YtbpdchaeakihkaaGreat
open Go.RowKit Go.Qd

theorem agg23 : AggT Tryz.prog 23 20 := ⟨⟨_, Tryz.underlying23, rfl⟩, by kernel_rfl⟩
theorem agg22 : AggT Tryz.prog 22 20 := ⟨⟨_, Tryz.underlying22, rfl⟩, by kernel_rfl⟩
theorem agg32 : AggT Tryz.prog 32 20 := ⟨⟨_, Tryz.underlying32, rfl⟩, by kernel_rfl⟩

theorem ivs_len20 {c : List Int} (h : c.length = 20) : (ivs c).length = 20 := by rw [ivs_length]; exact h
theorem cfg_at {W w : World} {R : List HP} {T : Nat} {c : List Int} (s : St W w (row T 0 (ivs c) :: R)) {i : Nat} (h : i < c.length) : w.cell? ⟨T, i, none⟩ = some (.int .i64 (c.getD i 0)) := by
  have := s.rowCell (ivs_get h)
  rw [Nat.zero_add] at this
  rw [this]; simp [h]

def leastF (c : List Int) (i : Nat) : Int := if i = 0 then 2 else if i = 3 ∨ i = 8 ∨ i = 16 then 0 else if i = 4 then c.getD 3 0 else if i = 11 then c.getD 10 0 else 1
def mostF (c : List Int) (i : Nat) : Int := if i = 0 then 12 else if i = 2 then c.getD 0 0 else if i = 3 then 2147483647 else if i = 4 then (if c.getD 3 0 = 0 then 0 else 2147483647) else if i = 5 then 6 else if i = 6 then 11
  else if i = 8 then c.getD 7 0 else if i = 7 ∨ i = 9 ∨ i = 15 ∨ i = 17 ∨ i = 18 then 8 else if i = 11 ∨ i = 12 then 64 else if i = 16 then 1 else if i = 19 then 512 else 16
def fineAt (c : List Int) (i : Nat) : Bool := decide (leastF c i ≤ c.getD i 0) && decide (c.getD i 0 ≤ mostF c i)
def rightB (c : List Int) : Bool := (List.range 20).all (fineAt c)
theorem rightB_iff {c : List Int} : rightB c = true ↔ ∀ i, i < 20 → fineAt c i = true := by unfold rightB; simp
theorem fine_lo {c : List Int} {i : Nat} (h : fineAt c i = true) : leastF c i ≤ c.getD i 0 := by unfold fineAt at h; simp at h; simpa using h.1
theorem fine_hi {c : List Int} {i : Nat} (h : fineAt c i = true) : c.getD i 0 ≤ mostF c i := by unfold fineAt at h; simp at h; simpa using h.2

section
variable {W w : World} {R : List HP} {post : Ending → World → Prop} {c : List Int}

set_option maxRecDepth 100000 in
set_option maxHeartbeats 4000000 in
theorem least_c {i : Nat} (st : St W w R) (hc : c.length = 20) (hi : i < 20) (K : ∀ w', St W w' R → post (.returned (.int .i64 (leastF c i))) w') :
    Calls Tryz.prog 78 #[.agg (ivs c).toArray, .int .i64 i] w post := by
  have HK := hid K; clear K
  have HC := hid hc; clear hc
  have hcase : i = 0 ∨ i = 1 ∨ i = 2 ∨ i = 3 ∨ i = 4 ∨ i = 5 ∨ i = 6 ∨ i = 7 ∨ i = 8 ∨ i = 9 ∨ i = 10 ∨ i = 11 ∨ i = 12 ∨ i = 13 ∨ i = 14 ∨ i = 15 ∨ i = 16 ∨ i = 17 ∨ i = 18 ∨ i = 19 := by omega
  clear hi
  rcases hcase with rfl | rfl | rfl | rfl | rfl | rfl | rfl | rfl | rfl | rfl | rfl | rfl | rfl | rfl | rfl | rfl | rfl | rfl | rfl | rfl
  all_goals
    simp only [leastF] at HK
    go_enter Tryz.func78, Tryz.ntmps78
    go_wp2_with (refine wpl_boxA (vs := ivs c) rfl (.tmp 0) rfl rfl st ?_; rintro T w0 s0; have g3 := cfg_at s0 (i := 3) (by rw [HC.out]; omega); have g10 := cfg_at s0 (i := 10) (by rw [HC.out]; omega))
    exact HK.out _ s0.drop

set_option maxRecDepth 100000 in
set_option maxHeartbeats 4000000 in
theorem most_c {i : Nat} (st : St W w R) (hc : c.length = 20) (hi : i < 20) (K : ∀ w', St W w' R → post (.returned (.int .i64 (mostF c i))) w') :
    Calls Tryz.prog 79 #[.agg (ivs c).toArray, .int .i64 i] w post := by
  have HK := hid K; clear K
  have HC := hid hc; clear hc
  have hcase : i = 0 ∨ i = 1 ∨ i = 2 ∨ i = 3 ∨ i = 4 ∨ i = 5 ∨ i = 6 ∨ i = 7 ∨ i = 8 ∨ i = 9 ∨ i = 10 ∨ i = 11 ∨ i = 12 ∨ i = 13 ∨ i = 14 ∨ i = 15 ∨ i = 16 ∨ i = 17 ∨ i = 18 ∨ i = 19 := by omega
  clear hi
  rcases hcase with rfl | rfl | rfl | rfl | rfl | rfl | rfl | rfl | rfl | rfl | rfl | rfl | rfl | rfl | rfl | rfl | rfl | rfl | rfl | rfl
  case inr.inr.inr.inr.inl =>
    by_cases h3 : c.getD 3 0 = 0
    · have e : mostF c 4 = 0 := by unfold mostF; simp only [h3]; rfl
      rw [e] at HK
      clear e
      go_enter Tryz.func79, Tryz.ntmps79
      go_wp2_with (refine wpl_boxA (vs := ivs c) rfl (.tmp 0) rfl rfl st ?_; rintro T w0 s0; have g3 := cfg_at s0 (i := 3) (by rw [HC.out]; omega); rw [h3] at g3)
      exact HK.out _ s0.drop
    · have e : mostF c 4 = 2147483647 := by have h3' : ¬ c[3]?.getD 0 = 0 := (by simpa using h3); simp [mostF, h3']
      rw [e] at HK
      have hb : (c.getD 3 0 == 0) = false := by simpa using h3
      clear e
      obtain ⟨z, hz⟩ : ∃ z, c.getD 3 0 = z := ⟨_, rfl⟩
      rw [hz] at hb
      have HZ := hid hz
      clear h3 hz
      go_enter Tryz.func79, Tryz.ntmps79
      go_wp2_with (refine wpl_boxA (vs := ivs c) rfl (.tmp 0) rfl rfl st ?_; rintro T w0 s0; have g3 := cfg_at s0 (i := 3) (by rw [HC.out]; omega); rw [HZ.out] at g3)
      exact HK.out _ s0.drop
  all_goals
    simp only [mostF] at HK
    go_enter Tryz.func79, Tryz.ntmps79
    go_wp2_with (refine wpl_boxA (vs := ivs c) rfl (.tmp 0) rfl rfl st ?_; rintro T w0 s0; have g0 := cfg_at s0 (i := 0) (by rw [HC.out]; omega); have g3 := cfg_at s0 (i := 3) (by rw [HC.out]; omega); have g7 := cfg_at s0 (i := 7) (by rw [HC.out]; omega))
    exact HK.out _ s0.drop

end

end Go.Proofs.YtbpdchaeakihkaaGreat
