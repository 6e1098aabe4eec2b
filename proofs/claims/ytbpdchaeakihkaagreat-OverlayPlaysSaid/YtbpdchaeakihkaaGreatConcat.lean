/- slices.Grow of nil, slices.Concat of two, at []int. -/
import Derived.Test.YtbpdchaeakihkaaGreatTv
import Derived.Test.YtbpdchaeakihkaaGreatLib
import Derived.WalkKit
import Derived.LoopTactic
namespace Go.Proofs.YtbpdchaeakihkaaGreat
open Go.RowKit Go.Qd

set_option maxRecDepth 100000 in
/-- slices.Grow of nil. -/
theorem grow_c {W w : World} {R : List HP} {post : Ending → World → Prop} {n : Nat} (st : St W w R) (hb : n * 8 ≤ 140737488355328) (hm : n ≤ maxLen)
    (K : ∀ ao' c' w', St W w' (OwnS 1 ao' 0 c' [] :: R) → post (.returned (.slice ao' 0 c')) w') : Calls Tryz.prog 114 #[.slice none 0 0, .int .i64 n] w post := by
  have HK := hid K; clear K
  have hmax' := hm
  unfold maxLen at hmax'
  rcases Nat.eq_zero_or_pos n with h | h
  · subst h
    go_enter Tryz.func114, Tryz.ntmps114
    go_wp2
    exact HK.out none 0 w (OwnS.none0 st)
  · obtain ⟨g, c', w1, zs, hrun, s1, hzl, hc1, hc2⟩ := run_append_zeros_st Tryz.elem24 Tryz.underlying3 24 st (RdS.none0 w 1) (k := n) h (by omega) (by rw [Nat.zero_add]; exact hb) (by rw [Nat.zero_add]; exact hm)
    rw [Nat.zero_add] at hrun hc1
    have e1 := run_slice_to Tryz.elem24 none 0 0 0 (Nat.le_refl _)
    have e2 := run_slice_to Tryz.elem24 (some ⟨g, 0, none⟩) n c' 0 (Nat.zero_le _)
    have s2 : St W w1 (OwnS 1 (some ⟨g, 0, none⟩) 0 c' [] :: R) := OwnS.close (sp := zs) ⟨by simp, by rw [hzl], Nat.zero_le _, hc2, by simp, fun _ => ⟨_, _, rfl⟩, fun _ h => (by cases h)⟩ (by rw [List.nil_append] at s1 ⊢; exact s1)
    have HZL := hid hzl
    clear hzl s1
    go_enter Tryz.func114, Tryz.ntmps114
    go_wp2_with (at_builtin; refine Lib.wpList_append_run _ rfl (.tmp 20) (.tmp 21) 24 3 rfl _ _ rfl rfl _ _ hrun ?_)
    exact HK.out _ _ _ s2

set_option maxRecDepth 100000 in
set_option maxHeartbeats 1000000 in
/-- slices.Concat of two slices. -/
theorem concat2_c {W w : World} {R : List HP} {post : Ending → World → Prop} {B : Nat} {a1 a2 : Option Addr} {n1 c1 n2 c2 : Nat} {x y : List Value} (st : St W w (row B 0 [.slice a1 n1 c1, .slice a2 n2 c2] :: R))
    (r1 : Rds W R 1 a1 n1 c1 x) (r2 : Rds W R 1 a2 n2 c2 y) (hb : (n1 + n2) * 8 ≤ 140737488355328) (hm : n1 + n2 ≤ maxLen)
    (K : ∀ ao' c' w', St W w' (OwnS 1 ao' (n1 + n2) c' (x ++ y) :: row B 0 [.slice a1 n1 c1, .slice a2 n2 c2] :: R) → post (.returned (.slice ao' (n1 + n2) c')) w') : Calls Tryz.prog 69 #[.slice (some ⟨B, 0, none⟩) 2 2] w post := by
  have HK := hid K; clear K
  have hmax' := hm
  unfold maxLen at hmax'
  have h0 := st.rowCell (i := 0) rfl
  have h1 := st.rowCell (i := 1) rfl
  rw [Nat.zero_add] at h0 h1
  have HR1 := hid r1; have HR2 := hid r2
  clear r1 r2
  go_enter Tryz.func69, Tryz.ntmps69
  go_wp2_with fail
  go_loop [3, 11] (fun sv ii => (ii = .int .i64 0 ∧ sv = .int .i64 0) ∨ (ii = .int .i64 1 ∧ sv = .int .i64 n1) ∨ (ii = .int .i64 2 ∧ sv = .int .i64 ((n1 + n2 : Nat) : Int))) (fun _ ii => 2 - (intOf ii).toNat)
  case atStart => exact .inl ⟨rfl, rfl⟩
  case round =>
    rcases hrel with ⟨rfl, rfl⟩ | ⟨rfl, rfl⟩ | ⟨rfl, rfl⟩
    · go_wp2
      go_round
      case rel => exact .inr (.inl ⟨rfl, by go_num⟩)
      case measure => simp [intOf]
    · go_wp2
      go_round
      case rel => exact .inr (.inr ⟨rfl, by go_num⟩)
      case measure => simp [intOf]
    · go_wp2_with (go_at_call 114; refine grow_c st hb hm ?_; rintro a3 c3 w3 s3)
      go_loopw [6, 27] (fun sv ii wr => (ii = .int .i64 0 ∧ ∃ ao c, sv = .slice ao 0 c ∧ St W wr (OwnS 1 ao 0 c [] :: row B 0 [.slice a1 n1 c1, .slice a2 n2 c2] :: R)) ∨ (ii = .int .i64 1 ∧ ∃ ao c, sv = .slice ao n1 c ∧ St W wr (OwnS 1 ao n1 c x :: row B 0 [.slice a1 n1 c1, .slice a2 n2 c2] :: R)) ∨ (ii = .int .i64 2 ∧ ∃ ao c, sv = .slice ao (n1 + n2) c ∧ St W wr (OwnS 1 ao (n1 + n2) c (x ++ y) :: row B 0 [.slice a1 n1 c1, .slice a2 n2 c2] :: R))) (fun _ ii _ => 2 - (intOf ii).toNat)
      case atStart => exact .inl ⟨rfl, a3, c3, rfl, s3⟩
      case round =>
        rcases hrel with ⟨rfl, ao, c, rfl, sr⟩ | ⟨rfl, ao, c, rfl, sr⟩ | ⟨rfl, ao, c, rfl, sr⟩
        · have g0 := (St.pick 1 sr).rowCell (i := 0) rfl
          rw [Nat.zero_add] at g0
          have ra := HR1.out _ (sr.dropN 2)
          have hb1 : (0 + n1) * 8 ≤ 140737488355328 := by rw [Nat.zero_add]; exact Nat.le_trans (Nat.mul_le_mul_right _ (by omega)) hb
          have hm1 : 0 + n1 ≤ maxLen := by unfold maxLen; omega
          go_wp2_with (at_builtin; refine wpl_append rfl (.tmp 31) (.tmp 32) rfl Tryz.elem24 rfl rfl sr ra hb1 hm1 ?_; rintro a5 c5 w5 s5; rw [Nat.zero_add, List.nil_append] at s5; rw [Nat.zero_add])
          go_roundw
          case rel => exact .inr (.inl ⟨rfl, a5, c5, rfl, s5⟩)
          case measure => simp [intOf]
        · have g0 := (St.pick 1 sr).rowCell (i := 1) rfl
          rw [Nat.zero_add] at g0
          have ra := HR2.out _ (sr.dropN 2)
          go_wp2_with (at_builtin; refine wpl_append rfl (.tmp 31) (.tmp 32) rfl Tryz.elem24 rfl rfl sr ra hb hm ?_; rintro a5 c5 w5 s5)
          go_roundw
          case rel => exact .inr (.inr ⟨rfl, a5, c5, rfl, s5⟩)
          case measure => simp [intOf]
        · go_wp2
          exact HK.out _ _ _ sr


end Go.Proofs.YtbpdchaeakihkaaGreat
