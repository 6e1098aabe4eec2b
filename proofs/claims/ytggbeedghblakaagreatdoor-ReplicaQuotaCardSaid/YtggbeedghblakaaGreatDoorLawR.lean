/- The law's Few, Of; the document's Check and Room of options. Printed by mkLawR.py. -/
import Derived.Test.YtggbeedghblakaaGreatDoorLawE
import Derived.Test.YtggbeedghblakaaGreatDoorOpnA
import Derived.Test.YtggbeedghblakaaGreatDoorReadsE
namespace Go.Proofs.YtggbeedghblakaaGreatDoor
open Go.RowKit Go.Qd

theorem agg_ra : AggT Tryz.prog 58 12 := ⟨⟨_, Tryz.underlying58, rfl⟩, by kernel_rfl⟩
def RAct.zero : RAct := ⟨0, ByteArray.empty, ByteArray.empty, en0⟩
theorem zero_ra (w : World) : (zeroValue 58).run Tryz.prog w = .ok (.agg RAct.zero.cells.toArray) w := by kernel_rfl
theorem ractC_get {l : List RAct} {i : Nat} (hi : i < l.length) {j : Nat} {u : Value} (h : (l[i].cells)[j]? = some u) : (ractC l)[i * 12 + j]? = some u := by
  have hj : j < 12 := by
    rcases Nat.lt_or_ge j 12 with g | g
    · exact g
    · rw [List.getElem?_eq_none (by simpa [RAct.cells, EnV.cells] using g)] at h; cases h
  have := flat_get (css := l.map RAct.cells) (sz := 12) (fun cs hc => by obtain ⟨x, _, rfl⟩ := List.mem_map.1 hc; rfl) (i := i) (by simpa using hi) (j := j) hj
  unfold ractC; rw [this, List.getElem_map]; exact h
theorem ractC_sz (l : List RAct) : (ractC l).length = l.length * 12 := by
  induction l with
  | nil => rfl
  | cons x l ih => show (x.cells ++ ractC l).length = _; rw [List.length_append, ih, List.length_cons]; simp [RAct.cells, EnV.cells]; omega
theorem ractC_ln {w : World} {ao : Option Addr} {n c : Nat} {l : List RAct} (rd : RdS w 12 ao n c (ractC l)) : l.length = n := by have := rd.len; rw [ractC_sz] at this; omega
theorem ract_ld {w : World} {b o n c i : Nat} {l : List RAct} (rd : RdS w 12 (some ⟨b, o, none⟩) n c (ractC l)) (hi : i < l.length) :
    (loadG 58 (.pointer (some ⟨b, o + i * 12, none⟩))).run Tryz.prog w = .ok (.agg l[i].cells.toArray) w := run_loadG agg_ra rfl (fun _ _ hu => rd.at2 (ractC_get hi hu))
/-- An act in its box. -/
theorem raLd {W w : World} {R : List HP} {T : Nat} {x : RAct} (s : St W w (row T 0 x.cells :: R)) :
    (loadG 3 (.pointer (some ⟨T, 0, none⟩))).run Tryz.prog w = .ok (.int .i64 x.kind) w ∧ (loadG 9 (.pointer (some ⟨T, 1, none⟩))).run Tryz.prog w = .ok (.string x.key) w ∧ (loadG 9 (.pointer (some ⟨T, 2, none⟩))).run Tryz.prog w = .ok (.string x.val) w ∧
    (loadG 35 (.pointer (some ⟨T, 3, none⟩))).run Tryz.prog w = .ok (.agg x.e.cells.toArray) w := by
  have f : ∀ i v, x.cells[i]? = some v → w.cell? ⟨T, i, none⟩ = some v := fun i v hv => by have := s.rowCell hv; rwa [Nat.zero_add] at this
  exact ⟨run_ldP (by kernel_rfl) (f 0 _ rfl), run_ldP (by kernel_rfl) (f 1 _ rfl), run_ldP (by kernel_rfl) (f 2 _ rfl), run_loadG (o := 0 + 3) agg_ren (vs := x.e.cells) rfl (St.rowPart s 3 (xs := x.e.cells) (ys := []) (by simp [RAct.cells]))⟩

section
variable {W w : World} {R : List HP} {post : Ending → World → Prop} {o : OptV}

set_option maxRecDepth 100000 in
set_option maxHeartbeats 2000000 in
theorem rock_0 (h0 : decide (o.nodes < 1) = true) (st : St W w R) (K : ∀ w', St W w' R → post (.returned (.int .i64 14)) w') : Calls Tryz.prog 25 #[.agg o.cells.toArray] w post := by
  have HK := hid K; clear K
  go_enter Tryz.func25, Tryz.ntmps25
  go_wp2_with (refine wpl_boxA (vs := o.cells) rfl (.tmp 0) rfl rfl st ?_; rintro T w1 s1; obtain ⟨k0, k1, k2, k3, k4⟩ := optRow s1)
  exact HK.out _ s1.drop

set_option maxRecDepth 100000 in
set_option maxHeartbeats 2000000 in
theorem rock_1 (h0 : decide (o.nodes < 1) = false) (h1 : decide (o.nodes > 12) = true) (st : St W w R) (K : ∀ w', St W w' R → post (.returned (.int .i64 14)) w') : Calls Tryz.prog 25 #[.agg o.cells.toArray] w post := by
  have HK := hid K; clear K
  go_enter Tryz.func25, Tryz.ntmps25
  go_wp2_with (refine wpl_boxA (vs := o.cells) rfl (.tmp 0) rfl rfl st ?_; rintro T w1 s1; obtain ⟨k0, k1, k2, k3, k4⟩ := optRow s1)
  exact HK.out _ s1.drop

set_option maxRecDepth 100000 in
set_option maxHeartbeats 2000000 in
theorem rock_2 (h0 : decide (o.nodes < 1) = false) (h1 : decide (o.nodes > 12) = false) (h2 : decide (o.quota < 1) = true) (st : St W w R) (K : ∀ w', St W w' R → post (.returned (.int .i64 14)) w') : Calls Tryz.prog 25 #[.agg o.cells.toArray] w post := by
  have HK := hid K; clear K
  go_enter Tryz.func25, Tryz.ntmps25
  go_wp2_with (refine wpl_boxA (vs := o.cells) rfl (.tmp 0) rfl rfl st ?_; rintro T w1 s1; obtain ⟨k0, k1, k2, k3, k4⟩ := optRow s1)
  exact HK.out _ s1.drop

set_option maxRecDepth 100000 in
set_option maxHeartbeats 2000000 in
theorem rock_3 (h0 : decide (o.nodes < 1) = false) (h1 : decide (o.nodes > 12) = false) (h2 : decide (o.quota < 1) = false) (h3 : decide (o.quota > 64) = true) (st : St W w R) (K : ∀ w', St W w' R → post (.returned (.int .i64 14)) w') : Calls Tryz.prog 25 #[.agg o.cells.toArray] w post := by
  have HK := hid K; clear K
  go_enter Tryz.func25, Tryz.ntmps25
  go_wp2_with (refine wpl_boxA (vs := o.cells) rfl (.tmp 0) rfl rfl st ?_; rintro T w1 s1; obtain ⟨k0, k1, k2, k3, k4⟩ := optRow s1)
  exact HK.out _ s1.drop

set_option maxRecDepth 100000 in
set_option maxHeartbeats 2000000 in
theorem rock_4 (h0 : decide (o.nodes < 1) = false) (h1 : decide (o.nodes > 12) = false) (h2 : decide (o.quota < 1) = false) (h3 : decide (o.quota > 64) = false) (h4 : decide (o.retain < 1) = true) (st : St W w R) (K : ∀ w', St W w' R → post (.returned (.int .i64 14)) w') : Calls Tryz.prog 25 #[.agg o.cells.toArray] w post := by
  have HK := hid K; clear K
  go_enter Tryz.func25, Tryz.ntmps25
  go_wp2_with (refine wpl_boxA (vs := o.cells) rfl (.tmp 0) rfl rfl st ?_; rintro T w1 s1; obtain ⟨k0, k1, k2, k3, k4⟩ := optRow s1)
  exact HK.out _ s1.drop

set_option maxRecDepth 100000 in
set_option maxHeartbeats 2000000 in
theorem rock_5 (h0 : decide (o.nodes < 1) = false) (h1 : decide (o.nodes > 12) = false) (h2 : decide (o.quota < 1) = false) (h3 : decide (o.quota > 64) = false) (h4 : decide (o.retain < 1) = false) (h5 : decide (o.retain > o.nodes) = true) (st : St W w R) (K : ∀ w', St W w' R → post (.returned (.int .i64 14)) w') : Calls Tryz.prog 25 #[.agg o.cells.toArray] w post := by
  have HK := hid K; clear K
  go_enter Tryz.func25, Tryz.ntmps25
  go_wp2_with (refine wpl_boxA (vs := o.cells) rfl (.tmp 0) rfl rfl st ?_; rintro T w1 s1; obtain ⟨k0, k1, k2, k3, k4⟩ := optRow s1)
  exact HK.out _ s1.drop

set_option maxRecDepth 100000 in
set_option maxHeartbeats 2000000 in
theorem rock_6 (h0 : decide (o.nodes < 1) = false) (h1 : decide (o.nodes > 12) = false) (h2 : decide (o.quota < 1) = false) (h3 : decide (o.quota > 64) = false) (h4 : decide (o.retain < 1) = false) (h5 : decide (o.retain > o.nodes) = false) (h6 : decide (o.t1 < 0) = true) (st : St W w R) (K : ∀ w', St W w' R → post (.returned (.int .i64 14)) w') : Calls Tryz.prog 25 #[.agg o.cells.toArray] w post := by
  have HK := hid K; clear K
  go_enter Tryz.func25, Tryz.ntmps25
  go_wp2_with (refine wpl_boxA (vs := o.cells) rfl (.tmp 0) rfl rfl st ?_; rintro T w1 s1; obtain ⟨k0, k1, k2, k3, k4⟩ := optRow s1)
  exact HK.out _ s1.drop

set_option maxRecDepth 100000 in
set_option maxHeartbeats 2000000 in
theorem rock_7 (h0 : decide (o.nodes < 1) = false) (h1 : decide (o.nodes > 12) = false) (h2 : decide (o.quota < 1) = false) (h3 : decide (o.quota > 64) = false) (h4 : decide (o.retain < 1) = false) (h5 : decide (o.retain > o.nodes) = false) (h6 : decide (o.t1 < 0) = false) (h7 : decide (o.t1 > 2147483647) = true) (st : St W w R) (K : ∀ w', St W w' R → post (.returned (.int .i64 14)) w') : Calls Tryz.prog 25 #[.agg o.cells.toArray] w post := by
  have HK := hid K; clear K
  go_enter Tryz.func25, Tryz.ntmps25
  go_wp2_with (refine wpl_boxA (vs := o.cells) rfl (.tmp 0) rfl rfl st ?_; rintro T w1 s1; obtain ⟨k0, k1, k2, k3, k4⟩ := optRow s1)
  exact HK.out _ s1.drop

set_option maxRecDepth 100000 in
set_option maxHeartbeats 2000000 in
theorem rock_8 (h0 : decide (o.nodes < 1) = false) (h1 : decide (o.nodes > 12) = false) (h2 : decide (o.quota < 1) = false) (h3 : decide (o.quota > 64) = false) (h4 : decide (o.retain < 1) = false) (h5 : decide (o.retain > o.nodes) = false) (h6 : decide (o.t1 < 0) = false) (h7 : decide (o.t1 > 2147483647) = false) (he1 : (o.t1 == 0) = true) (he2 : (o.t2 != 0) = true) (st : St W w R) (K : ∀ w', St W w' R → post (.returned (.int .i64 14)) w') : Calls Tryz.prog 25 #[.agg o.cells.toArray] w post := by
  have HK := hid K; clear K
  go_enter Tryz.func25, Tryz.ntmps25
  go_wp2_with (refine wpl_boxA (vs := o.cells) rfl (.tmp 0) rfl rfl st ?_; rintro T w1 s1; obtain ⟨k0, k1, k2, k3, k4⟩ := optRow s1)
  exact HK.out _ s1.drop

set_option maxRecDepth 100000 in
set_option maxHeartbeats 2000000 in
theorem rock_9 (h0 : decide (o.nodes < 1) = false) (h1 : decide (o.nodes > 12) = false) (h2 : decide (o.quota < 1) = false) (h3 : decide (o.quota > 64) = false) (h4 : decide (o.retain < 1) = false) (h5 : decide (o.retain > o.nodes) = false) (h6 : decide (o.t1 < 0) = false) (h7 : decide (o.t1 > 2147483647) = false) (he1 : (o.t1 == 0) = true) (he2 : (o.t2 != 0) = false) (hf1 : decide (o.t2 < o.t1) = true) (st : St W w R) (K : ∀ w', St W w' R → post (.returned (.int .i64 14)) w') : Calls Tryz.prog 25 #[.agg o.cells.toArray] w post := by
  have HK := hid K; clear K
  go_enter Tryz.func25, Tryz.ntmps25
  go_wp2_with (refine wpl_boxA (vs := o.cells) rfl (.tmp 0) rfl rfl st ?_; rintro T w1 s1; obtain ⟨k0, k1, k2, k3, k4⟩ := optRow s1)
  exact HK.out _ s1.drop

set_option maxRecDepth 100000 in
set_option maxHeartbeats 2000000 in
theorem rock_10 (h0 : decide (o.nodes < 1) = false) (h1 : decide (o.nodes > 12) = false) (h2 : decide (o.quota < 1) = false) (h3 : decide (o.quota > 64) = false) (h4 : decide (o.retain < 1) = false) (h5 : decide (o.retain > o.nodes) = false) (h6 : decide (o.t1 < 0) = false) (h7 : decide (o.t1 > 2147483647) = false) (he1 : (o.t1 == 0) = true) (he2 : (o.t2 != 0) = false) (hf1 : decide (o.t2 < o.t1) = false) (hf2 : decide (o.t2 > 2147483647) = true) (st : St W w R) (K : ∀ w', St W w' R → post (.returned (.int .i64 14)) w') : Calls Tryz.prog 25 #[.agg o.cells.toArray] w post := by
  have HK := hid K; clear K
  go_enter Tryz.func25, Tryz.ntmps25
  go_wp2_with (refine wpl_boxA (vs := o.cells) rfl (.tmp 0) rfl rfl st ?_; rintro T w1 s1; obtain ⟨k0, k1, k2, k3, k4⟩ := optRow s1)
  exact HK.out _ s1.drop

set_option maxRecDepth 100000 in
set_option maxHeartbeats 2000000 in
theorem rock_11 (h0 : decide (o.nodes < 1) = false) (h1 : decide (o.nodes > 12) = false) (h2 : decide (o.quota < 1) = false) (h3 : decide (o.quota > 64) = false) (h4 : decide (o.retain < 1) = false) (h5 : decide (o.retain > o.nodes) = false) (h6 : decide (o.t1 < 0) = false) (h7 : decide (o.t1 > 2147483647) = false) (he1 : (o.t1 == 0) = true) (he2 : (o.t2 != 0) = false) (hf1 : decide (o.t2 < o.t1) = false) (hf2 : decide (o.t2 > 2147483647) = false) (st : St W w R) (K : ∀ w', St W w' R → post (.returned (.int .i64 0)) w') : Calls Tryz.prog 25 #[.agg o.cells.toArray] w post := by
  have HK := hid K; clear K
  go_enter Tryz.func25, Tryz.ntmps25
  go_wp2_with (refine wpl_boxA (vs := o.cells) rfl (.tmp 0) rfl rfl st ?_; rintro T w1 s1; obtain ⟨k0, k1, k2, k3, k4⟩ := optRow s1)
  exact HK.out _ s1.drop

set_option maxRecDepth 100000 in
set_option maxHeartbeats 2000000 in
theorem rock_12 (h0 : decide (o.nodes < 1) = false) (h1 : decide (o.nodes > 12) = false) (h2 : decide (o.quota < 1) = false) (h3 : decide (o.quota > 64) = false) (h4 : decide (o.retain < 1) = false) (h5 : decide (o.retain > o.nodes) = false) (h6 : decide (o.t1 < 0) = false) (h7 : decide (o.t1 > 2147483647) = false) (he1 : (o.t1 == 0) = false) (hf1 : decide (o.t2 < o.t1) = true) (st : St W w R) (K : ∀ w', St W w' R → post (.returned (.int .i64 14)) w') : Calls Tryz.prog 25 #[.agg o.cells.toArray] w post := by
  have HK := hid K; clear K
  go_enter Tryz.func25, Tryz.ntmps25
  go_wp2_with (refine wpl_boxA (vs := o.cells) rfl (.tmp 0) rfl rfl st ?_; rintro T w1 s1; obtain ⟨k0, k1, k2, k3, k4⟩ := optRow s1)
  exact HK.out _ s1.drop

set_option maxRecDepth 100000 in
set_option maxHeartbeats 2000000 in
theorem rock_13 (h0 : decide (o.nodes < 1) = false) (h1 : decide (o.nodes > 12) = false) (h2 : decide (o.quota < 1) = false) (h3 : decide (o.quota > 64) = false) (h4 : decide (o.retain < 1) = false) (h5 : decide (o.retain > o.nodes) = false) (h6 : decide (o.t1 < 0) = false) (h7 : decide (o.t1 > 2147483647) = false) (he1 : (o.t1 == 0) = false) (hf1 : decide (o.t2 < o.t1) = false) (hf2 : decide (o.t2 > 2147483647) = true) (st : St W w R) (K : ∀ w', St W w' R → post (.returned (.int .i64 14)) w') : Calls Tryz.prog 25 #[.agg o.cells.toArray] w post := by
  have HK := hid K; clear K
  go_enter Tryz.func25, Tryz.ntmps25
  go_wp2_with (refine wpl_boxA (vs := o.cells) rfl (.tmp 0) rfl rfl st ?_; rintro T w1 s1; obtain ⟨k0, k1, k2, k3, k4⟩ := optRow s1)
  exact HK.out _ s1.drop

set_option maxRecDepth 100000 in
set_option maxHeartbeats 2000000 in
theorem rock_14 (h0 : decide (o.nodes < 1) = false) (h1 : decide (o.nodes > 12) = false) (h2 : decide (o.quota < 1) = false) (h3 : decide (o.quota > 64) = false) (h4 : decide (o.retain < 1) = false) (h5 : decide (o.retain > o.nodes) = false) (h6 : decide (o.t1 < 0) = false) (h7 : decide (o.t1 > 2147483647) = false) (he1 : (o.t1 == 0) = false) (hf1 : decide (o.t2 < o.t1) = false) (hf2 : decide (o.t2 > 2147483647) = false) (st : St W w R) (K : ∀ w', St W w' R → post (.returned (.int .i64 0)) w') : Calls Tryz.prog 25 #[.agg o.cells.toArray] w post := by
  have HK := hid K; clear K
  go_enter Tryz.func25, Tryz.ntmps25
  go_wp2_with (refine wpl_boxA (vs := o.cells) rfl (.tmp 0) rfl rfl st ?_; rintro T w1 s1; obtain ⟨k0, k1, k2, k3, k4⟩ := optRow s1)
  exact HK.out _ s1.drop

theorem check_of (h1 : 1 ≤ o.nodes ∧ o.nodes ≤ 12) (h2 : 1 ≤ o.quota ∧ o.quota ≤ 64) (h3 : 1 ≤ o.retain ∧ o.retain ≤ o.nodes) (h4 : 0 ≤ o.t1 ∧ o.t1 ≤ 2147483647) (h5 : o.t1 = 0 → o.t2 = 0) (h6 : o.t1 ≤ o.t2 ∧ o.t2 ≤ 2147483647) : o.check = 0 := by
  unfold OptV.check OptV.okB withinB
  rw [if_neg (by simp; omega), if_neg (by simp; omega), if_neg (by simp; omega)]

/-- The document's word on options. -/
theorem rocheck_c (st : St W w R) (K0 : o.check = 0 → ∀ w', St W w' R → post (.returned (.int .i64 0)) w') (K1 : ∀ w', St W w' R → post (.returned (.int .i64 14)) w') : Calls Tryz.prog 25 #[.agg o.cells.toArray] w post := by
  by_cases a0 : o.nodes < 1
  · exact rock_0  (decide_eq_true a0) st K1
  by_cases a1 : o.nodes > 12
  · exact rock_1 (decide_eq_false a0) (decide_eq_true a1) st K1
  by_cases a2 : o.quota < 1
  · exact rock_2 (decide_eq_false a0) (decide_eq_false a1) (decide_eq_true a2) st K1
  by_cases a3 : o.quota > 64
  · exact rock_3 (decide_eq_false a0) (decide_eq_false a1) (decide_eq_false a2) (decide_eq_true a3) st K1
  by_cases a4 : o.retain < 1
  · exact rock_4 (decide_eq_false a0) (decide_eq_false a1) (decide_eq_false a2) (decide_eq_false a3) (decide_eq_true a4) st K1
  by_cases a5 : o.retain > o.nodes
  · exact rock_5 (decide_eq_false a0) (decide_eq_false a1) (decide_eq_false a2) (decide_eq_false a3) (decide_eq_false a4) (decide_eq_true a5) st K1
  by_cases a6 : o.t1 < 0
  · exact rock_6 (decide_eq_false a0) (decide_eq_false a1) (decide_eq_false a2) (decide_eq_false a3) (decide_eq_false a4) (decide_eq_false a5) (decide_eq_true a6) st K1
  by_cases a7 : o.t1 > 2147483647
  · exact rock_7 (decide_eq_false a0) (decide_eq_false a1) (decide_eq_false a2) (decide_eq_false a3) (decide_eq_false a4) (decide_eq_false a5) (decide_eq_false a6) (decide_eq_true a7) st K1
  cases e1 : (o.t1 == 0) with
  | true =>
    cases e2 : (o.t2 != 0) with
    | true => exact rock_8 (decide_eq_false a0) (decide_eq_false a1) (decide_eq_false a2) (decide_eq_false a3) (decide_eq_false a4) (decide_eq_false a5) (decide_eq_false a6) (decide_eq_false a7) e1 e2 st K1
    | false =>
      by_cases f1 : o.t2 < o.t1
      · exact rock_9 (decide_eq_false a0) (decide_eq_false a1) (decide_eq_false a2) (decide_eq_false a3) (decide_eq_false a4) (decide_eq_false a5) (decide_eq_false a6) (decide_eq_false a7) e1 e2 (decide_eq_true f1) st K1
      by_cases f2 : o.t2 > 2147483647
      · exact rock_10 (decide_eq_false a0) (decide_eq_false a1) (decide_eq_false a2) (decide_eq_false a3) (decide_eq_false a4) (decide_eq_false a5) (decide_eq_false a6) (decide_eq_false a7) e1 e2 (decide_eq_false f1) (decide_eq_true f2) st K1
      refine rock_11 (decide_eq_false a0) (decide_eq_false a1) (decide_eq_false a2) (decide_eq_false a3) (decide_eq_false a4) (decide_eq_false a5) (decide_eq_false a6) (decide_eq_false a7) e1 e2 (decide_eq_false f1) (decide_eq_false f2) st (K0 ?_)
      have g1 : o.t1 = 0 := by simpa using e1
      have g2 : o.t2 = 0 := by simpa using e2
      exact check_of (by omega) (by omega) (by omega) (by omega) (by omega) (by omega)
  | false =>
    by_cases f1 : o.t2 < o.t1
    · exact rock_12 (decide_eq_false a0) (decide_eq_false a1) (decide_eq_false a2) (decide_eq_false a3) (decide_eq_false a4) (decide_eq_false a5) (decide_eq_false a6) (decide_eq_false a7) e1 (decide_eq_true f1) st K1
    by_cases f2 : o.t2 > 2147483647
    · exact rock_13 (decide_eq_false a0) (decide_eq_false a1) (decide_eq_false a2) (decide_eq_false a3) (decide_eq_false a4) (decide_eq_false a5) (decide_eq_false a6) (decide_eq_false a7) e1 (decide_eq_false f1) (decide_eq_true f2) st K1
    refine rock_14 (decide_eq_false a0) (decide_eq_false a1) (decide_eq_false a2) (decide_eq_false a3) (decide_eq_false a4) (decide_eq_false a5) (decide_eq_false a6) (decide_eq_false a7) e1 (decide_eq_false f1) (decide_eq_false f2) st (K0 ?_)
    have g1 : o.t1 ≠ 0 := by simpa using e1
    exact check_of (by omega) (by omega) (by omega) (by omega) (by omega) (by omega)

set_option maxRecDepth 100000 in
/-- For how many keys there is room. -/
theorem rroom_c (h1 : 1 ≤ o.nodes ∧ o.nodes ≤ 12) (h2 : 1 ≤ o.quota ∧ o.quota ≤ 64) (st : St W w R) (K : ∀ w', St W w' R → post (.returned (.int .i64 (o.nodes * o.quota))) w') : Calls Tryz.prog 31 #[.agg o.cells.toArray] w post := by
  have HK := hid K; clear K
  have hm : 0 ≤ o.nodes * o.quota ∧ o.nodes * o.quota ≤ 768 := ⟨Int.mul_nonneg (by omega) (by omega), by have := Int.mul_le_mul (a := o.nodes) (b := o.quota) (c := 12) (d := 64) h1.2 h2.2 (by omega) (by omega); omega⟩
  obtain ⟨z, hz⟩ : ∃ z, o.nodes * o.quota = z := ⟨_, rfl⟩
  rw [hz] at hm HK
  have hw : IntKind.i64.wrap (o.nodes * o.quota) = z := by rw [hz]; exact IntWalk.i64_in _ (by omega)
  clear hz
  go_enter Tryz.func31, Tryz.ntmps31
  go_wp2_with (refine wpl_boxA (vs := o.cells) rfl (.tmp 0) rfl rfl st ?_; rintro T w1 s1; obtain ⟨k0, k1, k2, k3, k4⟩ := optRow s1)
  exact HK.out _ s1.drop

set_option maxRecDepth 100000 in
/-- The program's options of the document's. -/
theorem of12_c (st : St W w R) (K : ∀ w', St W w' R → post (.returned (.agg o.cells.toArray)) w') : Calls Tryz.prog 26 #[.agg o.cells.toArray] w post := by
  have HK := hid K; clear K
  go_enter Tryz.func26, Tryz.ntmps26
  go_wp2_with (first
    | (refine wpl_boxA (vs := o.cells) rfl (.tmp 0) rfl rfl st ?_; rintro T w1 s1)
    | (refine wpl_allocA (vs := [.int .i64 0, .int .i64 0, .int .i64 0, .int .i64 0, .int .i64 0]) rfl rfl (fun _ => by kernel_rfl) s1 ?_; rintro U w2 s2; obtain ⟨k0, k1, k2, k3, k4⟩ := optRow (St.pick 1 s2))
    | (refine wpl_build rfl rfl (v := .agg o.cells.toArray) (by kernel_rfl) ?_)
    | (refine wpl_storeA (vs := o.cells) rfl (.tmp 2) (.tmp 13) (by rfl) agg_opt (by rfl) (by rfl) rfl (opt_one _) s2 rfl ?_; rintro w3 s3))
  have hL := run_loadA agg_opt (vs := o.cells) rfl s3.rowAll
  exact bodyPost_ret (v := .agg o.cells.toArray) (by simp [results, Tryz.results26, asAddr, hL, Act.put]) rfl (HK.out _ (s3.dropN 2))
end

section
attribute [local go_sem ↓] execOp_ldAny
variable {W w : World} {R : List HP} {post : Ending → World → Prop}
set_option maxRecDepth 100000 in
set_option maxHeartbeats 4000000 in
/-- Are acts few, and their texts short? -/
theorem few12_c {a : Option Addr} {n c : Nat} {l : List RAct} {most : Int} (rd : Rds W R 12 a n c (ractC l)) (hm : n ≤ 9223372036854775807) (st : St W w R) (K : ∀ b w', (b = true → (n : Int) ≤ most) → St W w' R → post (.returned (.bool b)) w') :
    Calls Tryz.prog 24 #[.slice a n c, .int .i64 most] w post := by
  have HK := hid K; clear K
  have HRD := hid rd
  have HN : Hid (l.length = n) := hid (ractC_ln (rd _ st))
  have HM := hid hm
  have hz : decide ((n : Int) ≤ most) = decide ((n : Int) ≤ most) := rfl
  clear rd
  go_enter Tryz.func24, Tryz.ntmps24
  go_wp2_with fail
  go_loopw [9] (fun ii wr => ∃ i : Nat, i ≤ n ∧ ii = .int .i64 i ∧ St W wr R) (fun ii _ => n - (intOf ii).toNat)
  case atStart => exact ⟨0, Nat.zero_le _, rfl, st⟩
  case round =>
    obtain ⟨i, hi, rfl, sr⟩ := hrel
    by_cases hlt : i < n
    · have hi2 : (i : Int) < (n : Int) := by omega
      have hiA : i < l.length := by rw [HN.out]; exact hlt
      have rdr := HRD.out _ sr
      obtain ⟨g3, o3, rfl⟩ := rdr.addr (by omega)
      have ci := ract_ld rdr hiA
      obtain ⟨x, hx⟩ : ∃ x, l[i] = x := ⟨_, rfl⟩
      rw [hx] at ci
      obtain ⟨b1, hb1⟩ : ∃ b, decide (40 < (x.key.size : Int)) = b := ⟨_, rfl⟩
      obtain ⟨b2, hb2⟩ : ∃ b, decide (60 < (x.val.size : Int)) = b := ⟨_, rfl⟩
      obtain ⟨b3, hb3⟩ : ∃ b, shortB x.e = b := ⟨_, rfl⟩
      have HB := hid hb3
      clear hx rdr hiA hb3
      cases b1 with
      | true =>
        go_wp2_with (first
          | (refine wpl_allocA rfl rfl zero_ra sr ?_; rintro T w2 s2)
          | (refine wpl_storeA (vs := x.cells) rfl (.tmp 6) (.tmp 12) (by rfl) agg_ra (by rfl) (by rfl) rfl (ract_one _) s2 rfl ?_; rintro w3 s3; obtain ⟨l0, l1, l2, l3⟩ := raLd s3))
        exact HK.out _ _ (fun h => by cases h) s3.drop
      | false =>
      cases b2 with
      | true =>
        go_wp2_with (first
          | (refine wpl_allocA rfl rfl zero_ra sr ?_; rintro T w2 s2)
          | (refine wpl_storeA (vs := x.cells) rfl (.tmp 6) (.tmp 12) (by rfl) agg_ra (by rfl) (by rfl) rfl (ract_one _) s2 rfl ?_; rintro w3 s3; obtain ⟨l0, l1, l2, l3⟩ := raLd s3))
        exact HK.out _ _ (fun h => by cases h) s3.drop
      | false =>
      cases b3 with
      | false =>
        go_wp2_with (first
          | (refine wpl_allocA rfl rfl zero_ra sr ?_; rintro T w2 s2)
          | (refine wpl_storeA (vs := x.cells) rfl (.tmp 6) (.tmp 12) (by rfl) agg_ra (by rfl) (by rfl) rfl (ract_one _) s2 rfl ?_; rintro w3 s3; obtain ⟨l0, l1, l2, l3⟩ := raLd s3)
          | (go_at_call 15; refine short_c s3 ?_; rintro w4 s4; rw [HB.out]))
        exact HK.out _ _ (fun h => by cases h) s4.drop
      | true =>
        go_wp2_with (first
          | (refine wpl_allocA rfl rfl zero_ra sr ?_; rintro T w2 s2)
          | (refine wpl_storeA (vs := x.cells) rfl (.tmp 6) (.tmp 12) (by rfl) agg_ra (by rfl) (by rfl) rfl (ract_one _) s2 rfl ?_; rintro w3 s3; obtain ⟨l0, l1, l2, l3⟩ := raLd s3)
          | (go_at_call 15; refine short_c s3 ?_; rintro w4 s4; rw [HB.out]))
        go_roundw
        case rel => exact ⟨i + 1, by omega, by go_num, s4.drop⟩
        case measure => simp [intOf]; omega
    · have hie : i = n := by omega
      subst hie
      go_wp2_with fail
      exact HK.out _ _ (fun h => of_decide_eq_true h) sr
end
end Go.Proofs.YtggbeedghblakaaGreatDoor
