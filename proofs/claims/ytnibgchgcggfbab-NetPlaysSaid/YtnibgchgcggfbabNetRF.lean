/- The reference's net: Cut, IsCut, New. -/
import Derived.Test.YtnibgchgcggfbabNetRC
namespace Go.Proofs.Ytnibgchgcggfbab
open Go.RowKit Go.Qd

theorem wpl_val {P : Program} {w : World} {ops : Array Oper} {rest : List Oper} {q : Oper} {A : Act} {Q : Exit → Act → World → Prop} {v : Value} {t : TypeId} {fs : Array (Nat × Operand)} (hgd : q.guard = none) (_hop : q.op = Op.build t fs) (h : (execOp A.eval q).run P w = .ok (.value v) w) (hK : wpList P ops Q rest (A.put q.dst v) w) : wpList P ops Q (q :: rest) A w := by
  refine wpList_plain hgd fun K hK' => ?_
  unfold Oper.wp
  simp only [h]
  exact hK' _ _ hK

section
variable {W w : World} {R : List HP} {post : Ending → World → Prop} {B : Nat} {N : RN}

set_option maxRecDepth 100000 in
set_option maxHeartbeats 1000000 in
theorem rcut_no {x y : Int} {v : Bool} (st : St W w R) (hl : linkB N.nodes x y = false)
    (K : ∀ w', St W w' R → post (.returned (.tuple #[.agg (rnC N).toArray, .int .i64 1])) w') :
    Calls Try.prog 35 #[.agg (rnC N).toArray, .int .i64 x, .int .i64 y, .bool v] w post := by
  have HK := hid K; clear K
  have HL := hid hl; clear hl
  go_enter Try.func35, Try.ntmps35
  go_wp2_with (first
    | (refine wpl_boxA (vs := rnC N) rfl (.tmp 0) rfl rfl st ?_; rintro T w0 s0)
    | (refine wpl_allocA rfl rfl zero43 s0 ?_; rintro E w1 s1)
    | (go_at_call 36; refine link_c s1 ?_; rintro w2 s2; rw [HL.out])
    | (refine wpl_loadA (vs := rnC N) rfl (.tmp 4) (by rfl) agg43 (by rfl) (rnC_len _) (St.pick 1 s1).rowAll ?_)
    | (refine wpl_loadA (vs := rnC N) rfl (.tmp 4) (by rfl) agg43 (by rfl) (rnC_len _) (St.pick 1 s2).rowAll ?_)
    | (refine wpl_storeA (vs := rnC N) rfl (.tmp 8) (.tmp 15) (by rfl) agg43 (by rfl) (by rfl) (rnC_len _) (rnC_one _) s2 (rnC_len _) ?_; rintro w3 s3))
  have hL := run_loadA agg43 (rnC_len _) s3.rowAll
  exact bodyPost_ret (v := .tuple #[.agg (rnC N).toArray, .int .i64 1]) (by simp [results, Try.results35, asAddr, hL]) rfl (HK.out _ (s3.dropN 2))

set_option maxRecDepth 100000 in
set_option maxHeartbeats 1000000 in
theorem rcut_c {x y : Nat} {v : Bool} (st : St W w R) (hl : linkB N.nodes x y = true) (hx : x < 12) (hy : y < 12)
    (K : ∀ w', St W w' R → post (.returned (.tuple #[.agg (rnC { N with cut := updC (updC N.cut x y v) y x v }).toArray, .int .i64 0])) w') :
    Calls Try.prog 35 #[.agg (rnC N).toArray, .int .i64 x, .int .i64 y, .bool v] w post := by
  have HK := hid K; clear K
  have HL := hid hl; clear hl
  have hx' : (x : Int) < 12 := by omega
  have hy' : (y : Int) < 12 := by omega
  go_enter Try.func35, Try.ntmps35
  go_wp2_with (first
    | (refine wpl_boxA (vs := rnC N) rfl (.tmp 0) rfl rfl st ?_; rintro T w0 s0)
    | (refine wpl_allocA rfl rfl zero43 s0 ?_; rintro E w1 s1)
    | (go_at_call 36; refine link_c s1 ?_; rintro w2 s2; rw [HL.out]; have s3 := rn_setC (St.pick 1 s2) hx hy v; have s4 := rn_setC s3 hy hx v; have f2 := rn_free (St.pick 1 s2) (i := 3 + x * 12 + y) (by omega); have c2 := rn_cut (St.pick 1 s2) hx hy; have f3 := rn_free s3 (i := 3 + y * 12 + x) (by omega); have c3 := rn_cut s3 hy hx)
    | (refine wpl_loadA (vs := rnC N) rfl (.tmp 4) (by rfl) agg43 (by rfl) (rnC_len _) (St.pick 1 s1).rowAll ?_)
    | (refine wpl_loadA (vs := rnC { N with cut := updC (updC N.cut x y v) y x v }) rfl (.tmp 4) (by rfl) agg43 (by rfl) (rnC_len _) s4.rowAll ?_)
    | (refine wpl_storeA (vs := rnC { N with cut := updC (updC N.cut x y v) y x v }) rfl (.tmp 8) (.tmp 28) (by rfl) agg43 (by rfl) (by rfl) (rnC_len _) (rnC_one _) (St.pick 1 s4) (rnC_len _) ?_; rintro w5 s5))
  have hL := run_loadA agg43 (rnC_len _) s5.rowAll
  exact bodyPost_ret (v := .tuple #[.agg (rnC { N with cut := updC (updC N.cut x y v) y x v }).toArray, .int .i64 0]) (by simp [results, Try.results35, asAddr, hL]) rfl (HK.out _ (s5.dropN 2))

set_option maxRecDepth 100000 in
set_option maxHeartbeats 1000000 in
theorem riscut_no {x y : Int} (st : St W w R) (hl : linkB N.nodes x y = false)
    (K : ∀ w', St W w' R → post (.returned (.bool false)) w') : Calls Try.prog 18 #[.agg (rnC N).toArray, .int .i64 x, .int .i64 y] w post := by
  have HK := hid K; clear K
  have HL := hid hl; clear hl
  go_enter Try.func18, Try.ntmps18
  go_wp2_with (first
    | (refine wpl_boxA (vs := rnC N) rfl (.tmp 0) rfl rfl st ?_; rintro T w0 s0)
    | (refine wpl_loadA (vs := rnC N) rfl (.tmp 3) (by rfl) agg43 (by rfl) (rnC_len _) s0.rowAll ?_)
    | (go_at_call 36; refine link_c s0 ?_; rintro w2 s2; rw [HL.out]))
  exact HK.out _ s2.drop

set_option maxRecDepth 100000 in
set_option maxHeartbeats 1000000 in
theorem riscut_c {x y : Nat} (st : St W w R) (hl : linkB N.nodes x y = true) (hx : x < 12) (hy : y < 12)
    (K : ∀ w', St W w' R → post (.returned (.bool (N.cut x y))) w') : Calls Try.prog 18 #[.agg (rnC N).toArray, .int .i64 x, .int .i64 y] w post := by
  have HK := hid K; clear K
  have HL := hid hl; clear hl
  have hx' : (x : Int) < 12 := by omega
  have hy' : (y : Int) < 12 := by omega
  have HX := hid (show max (x : Int) 0 = (x : Int) by omega)
  have HY := hid (show max (y : Int) 0 = (y : Int) by omega)
  go_enter Try.func18, Try.ntmps18
  go_wp2_with (first
    | (refine wpl_boxA (vs := rnC N) rfl (.tmp 0) rfl rfl st ?_; rintro T w0 s0)
    | (refine wpl_loadA (vs := rnC N) rfl (.tmp 3) (by rfl) agg43 (by rfl) (rnC_len _) s0.rowAll ?_)
    | (go_at_call 36; refine link_c s0 ?_; rintro w2 s2; rw [HL.out]; have c2 := rn_cut s2 hx hy)
    | (refine wpl_maxG (by rfl) _ _ (by rfl) (by rfl) (by rfl) ?_; first | rw [HX.out] | rw [HY.out]))
  exact HK.out _ s2.drop

set_option maxRecDepth 100000 in
set_option maxHeartbeats 1000000 in
theorem rnnew_c {x y : Int} (st : St W w R) (h : 2 ≤ x ∧ x ≤ 12 ∧ 1 ≤ y ∧ y ≤ 4096)
    (K : ∀ w', St W w' R → post (.returned (.tuple #[.agg (rnC ⟨x, y, none, 0, 0, fun _ _ => false, 0⟩).toArray, .int .i64 0])) w') : Calls Try.prog 15 #[.int .i64 x, .int .i64 y] w post := by
  have HK := hid K; clear K
  obtain ⟨h1, h2, h3, h4⟩ := h
  go_enter Try.func15, Try.ntmps15
  go_wp2_with (first
    | (refine wpl_allocA rfl rfl zero43 st ?_; rintro E w1 s1)
    | (refine wpl_val (v := .agg (rnC ⟨x, y, none, 0, 0, fun _ _ => false, 0⟩).toArray) rfl rfl (by kernel_rfl) ?_)
    | (refine wpl_storeA (vs := rnC ⟨x, y, none, 0, 0, fun _ _ => false, 0⟩) rfl (.tmp 4) (.tmp 23) (by rfl) agg43 (by rfl) (by rfl) (rnC_len _) (rnC_one _) s1 (rnC_len _) ?_; rintro w2 s2))
  have hL := run_loadA agg43 (rnC_len _) s2.rowAll
  exact bodyPost_ret (v := .tuple #[.agg (rnC ⟨x, y, none, 0, 0, fun _ _ => false, 0⟩).toArray, .int .i64 0]) (by simp [results, Try.results15, asAddr, hL]) rfl (HK.out _ s2.drop)

set_option maxRecDepth 100000 in
set_option maxHeartbeats 2000000 in
theorem rnnew_no {x y : Int} (st : St W w R) (h : x < 2 ∨ 12 < x ∨ y < 1 ∨ 4096 < y)
    (K : ∀ w', St W w' R → post (.returned (.tuple #[.agg (rnC noRN).toArray, .int .i64 1])) w') : Calls Try.prog 15 #[.int .i64 x, .int .i64 y] w post := by
  have HK := hid K; clear K
  have h' : x < 2 ∨ (2 ≤ x ∧ 12 < x) ∨ (2 ≤ x ∧ x ≤ 12 ∧ y < 1) ∨ (2 ≤ x ∧ x ≤ 12 ∧ 1 ≤ y ∧ 4096 < y) := by omega
  clear h
  rcases h' with h1 | ⟨h1, h2⟩ | ⟨h1, h2, h3⟩ | ⟨h1, h2, h3, h4⟩
  · go_enter Try.func15, Try.ntmps15
    go_wp2_with (first
      | (refine wpl_allocA rfl rfl zero43 st ?_; rintro E w1 s1)
      | (refine wpl_val (v := .agg (rnC noRN).toArray) rfl rfl (by kernel_rfl) ?_)
      | (refine wpl_storeA (vs := rnC noRN) rfl (.tmp 4) (.tmp 20) (by rfl) agg43 (by rfl) (by rfl) (rnC_len _) (rnC_one _) s1 (rnC_len _) ?_; rintro w2 s2))
    have hL := run_loadA agg43 (rnC_len _) s2.rowAll
    exact bodyPost_ret (v := .tuple #[.agg (rnC noRN).toArray, .int .i64 1]) (by simp [results, Try.results15, asAddr, hL]) rfl (HK.out _ s2.drop)
  · go_enter Try.func15, Try.ntmps15
    go_wp2_with (first
      | (refine wpl_allocA rfl rfl zero43 st ?_; rintro E w1 s1)
      | (refine wpl_val (v := .agg (rnC noRN).toArray) rfl rfl (by kernel_rfl) ?_)
      | (refine wpl_storeA (vs := rnC noRN) rfl (.tmp 4) (.tmp 20) (by rfl) agg43 (by rfl) (by rfl) (rnC_len _) (rnC_one _) s1 (rnC_len _) ?_; rintro w2 s2))
    have hL := run_loadA agg43 (rnC_len _) s2.rowAll
    exact bodyPost_ret (v := .tuple #[.agg (rnC noRN).toArray, .int .i64 1]) (by simp [results, Try.results15, asAddr, hL]) rfl (HK.out _ s2.drop)
  · go_enter Try.func15, Try.ntmps15
    go_wp2_with (first
      | (refine wpl_allocA rfl rfl zero43 st ?_; rintro E w1 s1)
      | (refine wpl_val (v := .agg (rnC noRN).toArray) rfl rfl (by kernel_rfl) ?_)
      | (refine wpl_storeA (vs := rnC noRN) rfl (.tmp 4) (.tmp 20) (by rfl) agg43 (by rfl) (by rfl) (rnC_len _) (rnC_one _) s1 (rnC_len _) ?_; rintro w2 s2))
    have hL := run_loadA agg43 (rnC_len _) s2.rowAll
    exact bodyPost_ret (v := .tuple #[.agg (rnC noRN).toArray, .int .i64 1]) (by simp [results, Try.results15, asAddr, hL]) rfl (HK.out _ s2.drop)
  · go_enter Try.func15, Try.ntmps15
    go_wp2_with (first
      | (refine wpl_allocA rfl rfl zero43 st ?_; rintro E w1 s1)
      | (refine wpl_val (v := .agg (rnC noRN).toArray) rfl rfl (by kernel_rfl) ?_)
      | (refine wpl_storeA (vs := rnC noRN) rfl (.tmp 4) (.tmp 20) (by rfl) agg43 (by rfl) (by rfl) (rnC_len _) (rnC_one _) s1 (rnC_len _) ?_; rintro w2 s2))
    have hL := run_loadA agg43 (rnC_len _) s2.rowAll
    exact bodyPost_ret (v := .tuple #[.agg (rnC noRN).toArray, .int .i64 1]) (by simp [results, Try.results15, asAddr, hL]) rfl (HK.out _ s2.drop)

end

end Go.Proofs.Ytnibgchgcggfbab
