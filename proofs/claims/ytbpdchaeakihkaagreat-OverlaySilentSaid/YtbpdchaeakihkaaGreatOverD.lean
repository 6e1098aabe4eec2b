/- setup: spans, Check (printed by mkOverD.py). -/
import Derived.Test.YtbpdchaeakihkaaGreatOverC
namespace Go.Proofs.YtbpdchaeakihkaaGreat
open Go.RowKit Go.Qd

def spansC (c : List Int) : List Value := ((List.range 20).map fun i => [Value.int .i64 (leastF c i), .int .i64 (mostF c i)]).flatten
theorem agg149 : AggT Tryz.prog 149 40 := ⟨⟨_, Tryz.underlying149, rfl⟩, by kernel_rfl⟩
theorem agg148 : AggT Tryz.prog 148 2 := ⟨⟨_, Tryz.underlying148, rfl⟩, by kernel_rfl⟩
theorem zero149 (w : World) : (zeroValue 149).run Tryz.prog w = .ok (.agg (List.replicate 40 (.int .i64 0)).toArray) w := by kernel_rfl

section
variable {W w : World} {R : List HP} {post : Ending → World → Prop} {c : List Int}

theorem boxP {B : Nat} {x y : Value} (s : St W w (row B 0 [x, y] :: R)) : w.cell? ⟨B, 0, none⟩ = some x ∧ w.cell? ⟨B, 1, none⟩ = some y :=
  ⟨s.rowCell (i := 0) rfl, by have := s.rowCell (i := 1) rfl; rwa [Nat.zero_add] at this⟩
theorem spansC_at (c : List Int) {i : Nat} (hi : i < 20) : ((spansC c).drop (i * 2)).take 2 = [.int .i64 (leastF c i), .int .i64 (mostF c i)] := by
  have hcase : i = 0 ∨ i = 1 ∨ i = 2 ∨ i = 3 ∨ i = 4 ∨ i = 5 ∨ i = 6 ∨ i = 7 ∨ i = 8 ∨ i = 9 ∨ i = 10 ∨ i = 11 ∨ i = 12 ∨ i = 13 ∨ i = 14 ∨ i = 15 ∨ i = 16 ∨ i = 17 ∨ i = 18 ∨ i = 19 := by omega
  rcases hcase with rfl | rfl | rfl | rfl | rfl | rfl | rfl | rfl | rfl | rfl | rfl | rfl | rfl | rfl | rfl | rfl | rfl | rfl | rfl | rfl <;> rfl

theorem spans_eq0 {x0 x1 x2 x3 x4 x5 x6 x7 x8 x9 x10 x11 x12 x13 x14 x15 x16 x17 x18 x19 : Int} (h : x3 = 0) : spansC [x0, x1, x2, x3, x4, x5, x6, x7, x8, x9, x10, x11, x12, x13, x14, x15, x16, x17, x18, x19] = [Value.int .i64 2, Value.int .i64 12, Value.int .i64 1, Value.int .i64 16, Value.int .i64 1, Value.int .i64 x0, Value.int .i64 0, Value.int .i64 2147483647, Value.int .i64 0, Value.int .i64 0, Value.int .i64 1, Value.int .i64 6, Value.int .i64 1, Value.int .i64 11, Value.int .i64 1, Value.int .i64 8, Value.int .i64 0, Value.int .i64 x7, Value.int .i64 1, Value.int .i64 8, Value.int .i64 1, Value.int .i64 16, Value.int .i64 x10, Value.int .i64 64, Value.int .i64 1, Value.int .i64 64, Value.int .i64 1, Value.int .i64 16, Value.int .i64 1, Value.int .i64 16, Value.int .i64 1, Value.int .i64 8, Value.int .i64 0, Value.int .i64 1, Value.int .i64 1, Value.int .i64 8, Value.int .i64 1, Value.int .i64 8, Value.int .i64 1, Value.int .i64 512] := by
  subst h; rfl
theorem spans_eq1 {x0 x1 x2 x3 x4 x5 x6 x7 x8 x9 x10 x11 x12 x13 x14 x15 x16 x17 x18 x19 : Int} (h : x3 ≠ 0) : spansC [x0, x1, x2, x3, x4, x5, x6, x7, x8, x9, x10, x11, x12, x13, x14, x15, x16, x17, x18, x19] = [Value.int .i64 2, Value.int .i64 12, Value.int .i64 1, Value.int .i64 16, Value.int .i64 1, Value.int .i64 x0, Value.int .i64 0, Value.int .i64 2147483647, Value.int .i64 x3, Value.int .i64 2147483647, Value.int .i64 1, Value.int .i64 6, Value.int .i64 1, Value.int .i64 11, Value.int .i64 1, Value.int .i64 8, Value.int .i64 0, Value.int .i64 x7, Value.int .i64 1, Value.int .i64 8, Value.int .i64 1, Value.int .i64 16, Value.int .i64 x10, Value.int .i64 64, Value.int .i64 1, Value.int .i64 64, Value.int .i64 1, Value.int .i64 16, Value.int .i64 1, Value.int .i64 16, Value.int .i64 1, Value.int .i64 8, Value.int .i64 0, Value.int .i64 1, Value.int .i64 1, Value.int .i64 8, Value.int .i64 1, Value.int .i64 8, Value.int .i64 1, Value.int .i64 512] := by
  have e : mostF [x0, x1, x2, x3, x4, x5, x6, x7, x8, x9, x10, x11, x12, x13, x14, x15, x16, x17, x18, x19] 4 = 2147483647 := by unfold mostF; simp [h]
  have e2 : spansC [x0, x1, x2, x3, x4, x5, x6, x7, x8, x9, x10, x11, x12, x13, x14, x15, x16, x17, x18, x19] = [Value.int .i64 2, Value.int .i64 12, Value.int .i64 1, Value.int .i64 16, Value.int .i64 1, Value.int .i64 x0, Value.int .i64 0, Value.int .i64 2147483647, Value.int .i64 x3, Value.int .i64 (mostF [x0, x1, x2, x3, x4, x5, x6, x7, x8, x9, x10, x11, x12, x13, x14, x15, x16, x17, x18, x19] 4), Value.int .i64 1, Value.int .i64 6, Value.int .i64 1, Value.int .i64 11, Value.int .i64 1, Value.int .i64 8, Value.int .i64 0, Value.int .i64 x7, Value.int .i64 1, Value.int .i64 8, Value.int .i64 1, Value.int .i64 16, Value.int .i64 x10, Value.int .i64 64, Value.int .i64 1, Value.int .i64 64, Value.int .i64 1, Value.int .i64 16, Value.int .i64 1, Value.int .i64 16, Value.int .i64 1, Value.int .i64 8, Value.int .i64 0, Value.int .i64 1, Value.int .i64 1, Value.int .i64 8, Value.int .i64 1, Value.int .i64 8, Value.int .i64 1, Value.int .i64 512] := rfl
  rw [e2, e]

set_option maxRecDepth 100000 in
set_option maxHeartbeats 4000000 in
theorem spans_c (st : St W w R) (hc : c.length = 20) (K : ∀ w', St W w' R → post (.returned (.agg (spansC c).toArray)) w') : Calls Tryz.prog 81 #[.agg (ivs c).toArray] w post := by
  have HK := hid K; clear K
  obtain ⟨x0, x1, x2, x3, x4, x5, x6, x7, x8, x9, x10, x11, x12, x13, x14, x15, x16, x17, x18, x19, rfl⟩ := list20 hc
  clear hc
  by_cases h3 : x3 = 0
  · rw [spans_eq0 h3] at HK
    have hb2 : (x3 != 0) = false := by simp [h3]
    have HZ := hid h3
    clear h3
    have hone : ∀ u ∈ [Value.int .i64 2, Value.int .i64 12, Value.int .i64 1, Value.int .i64 16, Value.int .i64 1, Value.int .i64 x0, Value.int .i64 0, Value.int .i64 2147483647, Value.int .i64 0, Value.int .i64 0, Value.int .i64 1, Value.int .i64 6, Value.int .i64 1, Value.int .i64 11, Value.int .i64 1, Value.int .i64 8, Value.int .i64 0, Value.int .i64 x7, Value.int .i64 1, Value.int .i64 8, Value.int .i64 1, Value.int .i64 16, Value.int .i64 x10, Value.int .i64 64, Value.int .i64 1, Value.int .i64 64, Value.int .i64 1, Value.int .i64 16, Value.int .i64 1, Value.int .i64 16, Value.int .i64 1, Value.int .i64 8, Value.int .i64 0, Value.int .i64 1, Value.int .i64 1, Value.int .i64 8, Value.int .i64 1, Value.int .i64 8, Value.int .i64 1, Value.int .i64 512], u.oneCell' = true := by simp [Value.oneCell']
    go_enter Tryz.func81, Tryz.ntmps81
    go_wp2_with (first
      | (refine wpl_boxA (vs := ivs [x0, x1, x2, x3, x4, x5, x6, x7, x8, x9, x10, x11, x12, x13, x14, x15, x16, x17, x18, x19]) rfl (.tmp 0) rfl rfl st ?_; rintro T w0 s0)
      | (refine wpl_allocA rfl rfl zero149 s0 ?_; rintro E w1 s1; have s2 := s1.alloc #[.int .i64 0, .int .i64 0] 148; have s3 := s1.alloc #[.int .i64 0, .int .i64 0] 148
         obtain ⟨k0, k1, k2, k3, k4, k5, k6, k7, k8, k9, k10, k11, k12, k13, k14, k15, k16, k17, k18, k19⟩ := cfgs (St.pick 2 s2)
         obtain ⟨q0, q1, q2, q3, q4, q5, q6, q7, q8, q9, q10, q11, q12, q13, q14, q15, q16, q17, q18, q19⟩ := cfgs (St.pick 2 s3)
         obtain ⟨b0, b1⟩ := boxP s2
         obtain ⟨c0, c1⟩ := boxP s3)
      | (refine wpl_build (v := .agg [Value.int .i64 2, Value.int .i64 12, Value.int .i64 1, Value.int .i64 16, Value.int .i64 1, Value.int .i64 x0, Value.int .i64 0, Value.int .i64 2147483647, Value.int .i64 0, Value.int .i64 0, Value.int .i64 1, Value.int .i64 6, Value.int .i64 1, Value.int .i64 11, Value.int .i64 1, Value.int .i64 8, Value.int .i64 0, Value.int .i64 x7, Value.int .i64 1, Value.int .i64 8, Value.int .i64 1, Value.int .i64 16, Value.int .i64 x10, Value.int .i64 64, Value.int .i64 1, Value.int .i64 64, Value.int .i64 1, Value.int .i64 16, Value.int .i64 1, Value.int .i64 16, Value.int .i64 1, Value.int .i64 8, Value.int .i64 0, Value.int .i64 1, Value.int .i64 1, Value.int .i64 8, Value.int .i64 1, Value.int .i64 8, Value.int .i64 1, Value.int .i64 512].toArray) rfl (rfl : _ = Op.build 149 _) (by kernel_rfl) ?_)
      | (refine wpl_storeA (vs := [Value.int .i64 2, Value.int .i64 12, Value.int .i64 1, Value.int .i64 16, Value.int .i64 1, Value.int .i64 x0, Value.int .i64 0, Value.int .i64 2147483647, Value.int .i64 0, Value.int .i64 0, Value.int .i64 1, Value.int .i64 6, Value.int .i64 1, Value.int .i64 11, Value.int .i64 1, Value.int .i64 8, Value.int .i64 0, Value.int .i64 x7, Value.int .i64 1, Value.int .i64 8, Value.int .i64 1, Value.int .i64 16, Value.int .i64 x10, Value.int .i64 64, Value.int .i64 1, Value.int .i64 64, Value.int .i64 1, Value.int .i64 16, Value.int .i64 1, Value.int .i64 16, Value.int .i64 1, Value.int .i64 8, Value.int .i64 0, Value.int .i64 1, Value.int .i64 1, Value.int .i64 8, Value.int .i64 1, Value.int .i64 8, Value.int .i64 1, Value.int .i64 512]) rfl (.tmp 2) (.tmp 37) (by rfl) agg149 (by rfl) (by rfl) rfl hone (St.pick 1 s2) rfl ?_; rintro w5 s5))
    have hL := run_loadA agg149 (vs := [Value.int .i64 2, Value.int .i64 12, Value.int .i64 1, Value.int .i64 16, Value.int .i64 1, Value.int .i64 x0, Value.int .i64 0, Value.int .i64 2147483647, Value.int .i64 0, Value.int .i64 0, Value.int .i64 1, Value.int .i64 6, Value.int .i64 1, Value.int .i64 11, Value.int .i64 1, Value.int .i64 8, Value.int .i64 0, Value.int .i64 x7, Value.int .i64 1, Value.int .i64 8, Value.int .i64 1, Value.int .i64 16, Value.int .i64 x10, Value.int .i64 64, Value.int .i64 1, Value.int .i64 64, Value.int .i64 1, Value.int .i64 16, Value.int .i64 1, Value.int .i64 16, Value.int .i64 1, Value.int .i64 8, Value.int .i64 0, Value.int .i64 1, Value.int .i64 1, Value.int .i64 8, Value.int .i64 1, Value.int .i64 8, Value.int .i64 1, Value.int .i64 512]) rfl s5.rowAll
    exact bodyPost_ret (v := .agg [Value.int .i64 2, Value.int .i64 12, Value.int .i64 1, Value.int .i64 16, Value.int .i64 1, Value.int .i64 x0, Value.int .i64 0, Value.int .i64 2147483647, Value.int .i64 0, Value.int .i64 0, Value.int .i64 1, Value.int .i64 6, Value.int .i64 1, Value.int .i64 11, Value.int .i64 1, Value.int .i64 8, Value.int .i64 0, Value.int .i64 x7, Value.int .i64 1, Value.int .i64 8, Value.int .i64 1, Value.int .i64 16, Value.int .i64 x10, Value.int .i64 64, Value.int .i64 1, Value.int .i64 64, Value.int .i64 1, Value.int .i64 16, Value.int .i64 1, Value.int .i64 16, Value.int .i64 1, Value.int .i64 8, Value.int .i64 0, Value.int .i64 1, Value.int .i64 1, Value.int .i64 8, Value.int .i64 1, Value.int .i64 8, Value.int .i64 1, Value.int .i64 512].toArray) (by simp [results, Tryz.results81, asAddr, hL]) rfl (HK.out _ (s5.dropN 3))
  · rw [spans_eq1 h3] at HK
    have hb : (x3 == 0) = false := by simpa using h3
    have hb2 : (x3 != 0) = true := by simp [h3]
    clear h3
    have hone : ∀ u ∈ [Value.int .i64 2, Value.int .i64 12, Value.int .i64 1, Value.int .i64 16, Value.int .i64 1, Value.int .i64 x0, Value.int .i64 0, Value.int .i64 2147483647, Value.int .i64 x3, Value.int .i64 2147483647, Value.int .i64 1, Value.int .i64 6, Value.int .i64 1, Value.int .i64 11, Value.int .i64 1, Value.int .i64 8, Value.int .i64 0, Value.int .i64 x7, Value.int .i64 1, Value.int .i64 8, Value.int .i64 1, Value.int .i64 16, Value.int .i64 x10, Value.int .i64 64, Value.int .i64 1, Value.int .i64 64, Value.int .i64 1, Value.int .i64 16, Value.int .i64 1, Value.int .i64 16, Value.int .i64 1, Value.int .i64 8, Value.int .i64 0, Value.int .i64 1, Value.int .i64 1, Value.int .i64 8, Value.int .i64 1, Value.int .i64 8, Value.int .i64 1, Value.int .i64 512], u.oneCell' = true := by simp [Value.oneCell']
    go_enter Tryz.func81, Tryz.ntmps81
    go_wp2_with (first
      | (refine wpl_boxA (vs := ivs [x0, x1, x2, x3, x4, x5, x6, x7, x8, x9, x10, x11, x12, x13, x14, x15, x16, x17, x18, x19]) rfl (.tmp 0) rfl rfl st ?_; rintro T w0 s0)
      | (refine wpl_allocA rfl rfl zero149 s0 ?_; rintro E w1 s1; have s2 := s1.alloc #[.int .i64 0, .int .i64 0] 148; have s3 := s1.alloc #[.int .i64 x3, .int .i64 2147483647] 148
         obtain ⟨k0, k1, k2, k3, k4, k5, k6, k7, k8, k9, k10, k11, k12, k13, k14, k15, k16, k17, k18, k19⟩ := cfgs (St.pick 2 s2)
         obtain ⟨q0, q1, q2, q3, q4, q5, q6, q7, q8, q9, q10, q11, q12, q13, q14, q15, q16, q17, q18, q19⟩ := cfgs (St.pick 2 s3)
         obtain ⟨b0, b1⟩ := boxP s2
         obtain ⟨c0, c1⟩ := boxP s3)
      | (refine wpl_build (v := .agg [Value.int .i64 2, Value.int .i64 12, Value.int .i64 1, Value.int .i64 16, Value.int .i64 1, Value.int .i64 x0, Value.int .i64 0, Value.int .i64 2147483647, Value.int .i64 x3, Value.int .i64 2147483647, Value.int .i64 1, Value.int .i64 6, Value.int .i64 1, Value.int .i64 11, Value.int .i64 1, Value.int .i64 8, Value.int .i64 0, Value.int .i64 x7, Value.int .i64 1, Value.int .i64 8, Value.int .i64 1, Value.int .i64 16, Value.int .i64 x10, Value.int .i64 64, Value.int .i64 1, Value.int .i64 64, Value.int .i64 1, Value.int .i64 16, Value.int .i64 1, Value.int .i64 16, Value.int .i64 1, Value.int .i64 8, Value.int .i64 0, Value.int .i64 1, Value.int .i64 1, Value.int .i64 8, Value.int .i64 1, Value.int .i64 8, Value.int .i64 1, Value.int .i64 512].toArray) rfl (rfl : _ = Op.build 149 _) (by kernel_rfl) ?_)
      | (refine wpl_storeA (vs := [Value.int .i64 2, Value.int .i64 12, Value.int .i64 1, Value.int .i64 16, Value.int .i64 1, Value.int .i64 x0, Value.int .i64 0, Value.int .i64 2147483647, Value.int .i64 x3, Value.int .i64 2147483647, Value.int .i64 1, Value.int .i64 6, Value.int .i64 1, Value.int .i64 11, Value.int .i64 1, Value.int .i64 8, Value.int .i64 0, Value.int .i64 x7, Value.int .i64 1, Value.int .i64 8, Value.int .i64 1, Value.int .i64 16, Value.int .i64 x10, Value.int .i64 64, Value.int .i64 1, Value.int .i64 64, Value.int .i64 1, Value.int .i64 16, Value.int .i64 1, Value.int .i64 16, Value.int .i64 1, Value.int .i64 8, Value.int .i64 0, Value.int .i64 1, Value.int .i64 1, Value.int .i64 8, Value.int .i64 1, Value.int .i64 8, Value.int .i64 1, Value.int .i64 512]) rfl (.tmp 2) (.tmp 37) (by rfl) agg149 (by rfl) (by rfl) rfl hone (St.pick 1 s3) rfl ?_; rintro w5 s5))
    have hL := run_loadA agg149 (vs := [Value.int .i64 2, Value.int .i64 12, Value.int .i64 1, Value.int .i64 16, Value.int .i64 1, Value.int .i64 x0, Value.int .i64 0, Value.int .i64 2147483647, Value.int .i64 x3, Value.int .i64 2147483647, Value.int .i64 1, Value.int .i64 6, Value.int .i64 1, Value.int .i64 11, Value.int .i64 1, Value.int .i64 8, Value.int .i64 0, Value.int .i64 x7, Value.int .i64 1, Value.int .i64 8, Value.int .i64 1, Value.int .i64 16, Value.int .i64 x10, Value.int .i64 64, Value.int .i64 1, Value.int .i64 64, Value.int .i64 1, Value.int .i64 16, Value.int .i64 1, Value.int .i64 16, Value.int .i64 1, Value.int .i64 8, Value.int .i64 0, Value.int .i64 1, Value.int .i64 1, Value.int .i64 8, Value.int .i64 1, Value.int .i64 8, Value.int .i64 1, Value.int .i64 512]) rfl s5.rowAll
    exact bodyPost_ret (v := .agg [Value.int .i64 2, Value.int .i64 12, Value.int .i64 1, Value.int .i64 16, Value.int .i64 1, Value.int .i64 x0, Value.int .i64 0, Value.int .i64 2147483647, Value.int .i64 x3, Value.int .i64 2147483647, Value.int .i64 1, Value.int .i64 6, Value.int .i64 1, Value.int .i64 11, Value.int .i64 1, Value.int .i64 8, Value.int .i64 0, Value.int .i64 x7, Value.int .i64 1, Value.int .i64 8, Value.int .i64 1, Value.int .i64 16, Value.int .i64 x10, Value.int .i64 64, Value.int .i64 1, Value.int .i64 64, Value.int .i64 1, Value.int .i64 16, Value.int .i64 1, Value.int .i64 16, Value.int .i64 1, Value.int .i64 8, Value.int .i64 0, Value.int .i64 1, Value.int .i64 1, Value.int .i64 8, Value.int .i64 1, Value.int .i64 8, Value.int .i64 1, Value.int .i64 512].toArray) (by simp [results, Tryz.results81, asAddr, hL]) rfl (HK.out _ (s5.dropN 3))

theorem spansC_len (c : List Int) : (spansC c).length = 40 := rfl

set_option maxRecDepth 100000 in
set_option maxHeartbeats 2000000 in
theorem scheck_c (st : St W w R) (hc : c.length = 20) (hr : rightB c = true) (K : ∀ w', St W w' R → post (.returned (.tuple #[.int .i64 0, .int .i64 0])) w') : Calls Tryz.prog 39 #[.agg (ivs c).toArray] w post := by
  have HK := hid K; clear K
  have HC := hid hc; have HR := hid (rightB_iff.1 hr); clear hc hr
  go_enter Tryz.func39, Tryz.ntmps39
  go_wp2_with (first
    | (refine wpl_boxA (vs := ivs c) rfl (.tmp 0) rfl rfl st ?_; rintro T w0 s0)
    | (refine wpl_loadA (vs := ivs c) rfl (.tmp 1) (by rfl) agg32 (by rfl) (ivs_len20 HC.out) (St.pick 1 s3).rowAll ?_)
    | (refine wpl_loadA (vs := ivs c) rfl (.tmp 1) (by rfl) agg32 (by rfl) (ivs_len20 HC.out) s0.rowAll ?_)
    | (go_at_call 80; refine list_setup_c s0 HC.out ?_; rintro w1 s1)
    | (refine wpl_allocA rfl rfl zero22 s1 ?_; rintro L w2 s2)
    | (refine wpl_storeA (vs := ivs c) rfl (.tmp 4) (.tmp 8) (by rfl) agg22 (by rfl) (by rfl) (ivs_len20 HC.out) (ivs_one _) s2 rfl ?_; rintro w3 s3)
    | (go_at_call 81; refine spans_c s3 HC.out ?_; rintro w4 s4))
  go_loopw [11] (fun ii wr => ∃ i : Nat, i ≤ 20 ∧ ii = .int .i64 i ∧ St W wr (row L 0 (ivs c) :: row T 0 (ivs c) :: R)) (fun ii _ => 20 - (intOf ii).toNat)
  case atStart => exact ⟨0, Nat.zero_le _, rfl, s4⟩
  case round =>
    obtain ⟨i, hi, rfl, sr⟩ := hrel
    by_cases hlt : i < 20
    · have hi20 : (i : Int) < 20 := by omega
      have hf := HR.out i hlt
      have hlo := fine_lo hf
      have hup := fine_hi hf
      obtain ⟨x, hx⟩ : ∃ x, c.getD i 0 = x := ⟨_, rfl⟩
      have hsp := spansC_at c hlt
      obtain ⟨lo, hl⟩ : ∃ lo, leastF c i = lo := ⟨_, rfl⟩
      obtain ⟨up, hu⟩ : ∃ up, mostF c i = up := ⟨_, rfl⟩
      rw [hx, hl] at hlo
      rw [hx, hu] at hup
      rw [hl, hu] at hsp
      have HSP := hid hsp
      have s5 := sr.alloc #[.int .i64 lo, .int .i64 up] 148
      have c1 := cfg_at (St.pick 1 s5) (i := i) (by rw [HC.out]; omega)
      obtain ⟨b0, b1⟩ := boxP s5
      rw [hx] at c1
      have h1 : decide (x < lo) = false := decide_eq_false (by omega)
      have h2 : decide (up < x) = false := decide_eq_false (by omega)
      clear hf hx hsp hl hu
      go_wp2_with (first
        | (refine wpl_index rfl (.tmp 10) (.tmp 11) rfl (by rfl) (by rfl) (run_index2 Tryz.underlying149 agg148 hlt HSP.out) ?_))
      go_quiet (fail)
      have s6 := s5.drewN nq
      generalize (wr.alloc (.cells #[.int .i64 lo, .int .i64 up] 148)).drewN nq = w6 at s6 ⊢
      go_wp2_with fail
      trace_state
      go_roundw
      case rel => exact ⟨i + 1, by omega, by go_num, s6.drop⟩
      case measure => simp [intOf]; omega
    · have hi20 : i = 20 := by omega
      subst hi20
      go_wp2_with fail
      exact HK.out _ (sr.dropN 2)

end

end Go.Proofs.YtbpdchaeakihkaaGreat
