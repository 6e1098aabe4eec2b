/- The reference's net: Lose, Take. -/
import Derived.Test.YtnibgchgcggfbabNetRC
namespace Go.Proofs.Ytnibgchgcggfbab
open Go.RowKit Go.Qd
attribute [local go_sem ↓] execOp_load43 execOp_store43

section
variable {W w : World} {R : List HP} {post : Ending → World → Prop} {B : Nat} {N : RN} {ps : List PV}

set_option maxRecDepth 100000 in
set_option maxHeartbeats 1000000 in
theorem rlose_no {i : Int} (st : St W w R) (h : hasR N.n i = false)
    (K : ∀ w', St W w' R → post (.returned (.tuple #[.agg (rnC N).toArray, .int .i64 3])) w') :
    Calls Try.prog 32 #[.agg (rnC N).toArray, .int .i64 i] w post := by
  have HK := hid K; clear K
  have HH := hid h; clear h
  go_enter Try.func32, Try.ntmps32
  go_wp2_with (first
    | (refine wpl_boxA (vs := rnC N) rfl (.tmp 0) rfl rfl st ?_; rintro T w0 s0)
    | (refine wpl_allocA rfl rfl zero43 s0 ?_; rintro E w1 s1)
    | (go_at_call 19; refine rhas_c s1 ?_; rintro w2 s2; rw [HH.out])
    | (refine wpl_loadA (vs := rnC N) rfl (.tmp 2) (by rfl) agg43 (by rfl) (rnC_len _) (St.pick 1 s1).rowAll ?_)
    | (refine wpl_loadA (vs := rnC N) rfl (.tmp 2) (by rfl) agg43 (by rfl) (rnC_len _) (St.pick 1 s2).rowAll ?_)
    | (refine wpl_storeA (vs := rnC N) rfl (.tmp 4) (.tmp 10) (by rfl) agg43 (by rfl) (by rfl) (rnC_len _) (rnC_one _) s2 (rnC_len _) ?_; rintro w3 s3))
  have hL := run_loadA agg43 (rnC_len _) s3.rowAll
  exact bodyPost_ret (v := .tuple #[.agg (rnC N).toArray, .int .i64 3]) (by simp [results, Try.results32, asAddr, hL]) rfl (HK.out _ (s3.dropN 2))

set_option maxRecDepth 100000 in
set_option maxHeartbeats 2000000 in
theorem rlose_c {i : Nat} (st : St W w R) (rds : Rds W R 4 N.a N.n N.c (pcells ps)) (hi : i < N.n) (hn : N.n ≤ 4096)
    (K : ∀ a' c' w', St W w' (OwnS 4 a' (N.n - 1) c' (pcells (ps.eraseIdx i)) :: R) → post (.returned (.tuple #[.agg (rnC { N with a := a', n := N.n - 1, c := c' }).toArray, .int .i64 0])) w') :
    Calls Try.prog 32 #[.agg (rnC N).toArray, .int .i64 i] w post := by
  have HK := hid K; clear K
  have rd := rds w st
  have hle := rd.le
  have hbig := rd.big
  have hpl := pcells_len rd
  have e1 := run_slice_to Try.elem39 N.a N.n N.c i (by omega)
  obtain ⟨ax, cx, ht, e2⟩ := run_slice_from Try.elem39 N.a N.n N.c (i + 1) (N.n - 1 - i) (i := (i : Int) + 1) (by omega) (by omega)
  have hm1 : i + (N.n - 1 - i) ≤ maxLen := by unfold maxLen; omega
  have hm0 : 0 + i ≤ maxLen := by unfold maxLen; omega
  have r1 : Rds W R 4 N.a i N.c ((pcells ps).take (i * 4)) := fun w s => RdS.short (rds w s) (by omega)
  have r2 : Rds W R 4 ax (N.n - 1 - i) cx ((pcells ps).drop ((i + 1) * 4)) := fun w s => RdS.tail (rds w s) (by omega) ht
  have hcs := pcells_erase ps i (by omega)
  have hnn : i + (N.n - 1 - i) = N.n - 1 := by omega
  have hb2 : (i + (N.n - 1 - i)) * 48 ≤ 140737488355328 := by omega
  have hb1 : (0 + i) * 48 ≤ 140737488355328 := by omega
  have HC := hid hcs; have HN := hid hnn; clear hcs hnn
  have hwr : IntKind.i64.wrap ((i : Int) + 1) = (i : Int) + 1 := IntWalk.i64_in _ (by omega)
  have HH := hid (show hasR N.n (i : Int) = true by unfold hasR; simp; omega)
  go_enter Try.func32, Try.ntmps32
  go_wp2_with (first
    | (refine wpl_boxA (vs := rnC N) rfl (.tmp 0) rfl rfl st ?_; rintro T w0 s0)
    | (refine wpl_allocA rfl rfl zero43 s0 ?_; rintro E w1 s1)
    | (go_at_call 19; refine rhas_c s1 ?_; rintro w2 s2; rw [HH.out])
    | (refine wpl_loadA (vs := rnC N) rfl (.tmp 2) (by rfl) agg43 (by rfl) (rnC_len _) (St.pick 1 s1).rowAll ?_))
  have f0 := rn_l (St.pick 1 s2)
  have sA := (s2.alloc #[] 54).drew
  have fA := rn_l (St.pick 2 sA)
  have sA' := OwnS.empty (sz := 4) sA.drop (some ⟨w2.heap.size, 0, none⟩)
  have rA := r1 _ (sA.dropN 3)
  go_region_law (first
    | (refine step_append_st rfl (.tmp 11) (.tmp 15) rfl Try.elem39 rfl rfl sA' rA hb1 hm0 ?_; rintro a3 c3 w3 s3; rw [Nat.zero_add, List.nil_append] at s3; rw [Nat.zero_add]; have f3 := rn_l (St.pick 2 s3))
    | (refine step_append_st rfl (.tmp 16) (.tmp 21) rfl Try.elem39 rfl rfl s3 (r2 _ (s3.dropN 3)) hb2 hm1 ?_; rintro a4 c4 w4 s4; rw [← HC.out, HN.out] at s4; rw [HN.out]; have g4 := rn_l (St.pick 2 s4); have f4 := rn_free (St.pick 2 s4) (i := 2) (by omega)))
  all_goals
    have s5 := rn_setL (St.pick 2 s4) a4 (N.n - 1) c4
    go_wp2_with (first
      | (refine wpl_loadA (vs := rnC { N with a := a4, n := N.n - 1, c := c4 }) rfl (.tmp 2) (by rfl) agg43 (by rfl) (rnC_len _) s5.rowAll ?_)
      | (refine wpl_storeA (vs := rnC { N with a := a4, n := N.n - 1, c := c4 }) rfl (.tmp 4) (.tmp 24) (by rfl) agg43 (by rfl) (by rfl) (rnC_len _) (rnC_one _) (St.pick 2 s5) (rnC_len _) ?_; rintro w6 s6))
    have hL := run_loadA agg43 (rnC_len _) s6.rowAll
    exact bodyPost_ret (v := .tuple #[.agg (rnC { N with a := a4, n := N.n - 1, c := c4 }).toArray, .int .i64 0]) (by simp [results, Try.results32, asAddr, hL]) rfl (HK.out _ _ _ ((s6.perm [0, 0]).dropN 2))

set_option maxRecDepth 100000 in
set_option maxHeartbeats 1000000 in
theorem rtake_no {i : Int} (st : St W w R) (h : hasR N.n i = false)
    (K : ∀ w', St W w' R → post (.returned (.tuple #[.agg (rnC N).toArray, .int .i64 0, .slice none 0 0, .int .i64 3])) w') :
    Calls Try.prog 31 #[.agg (rnC N).toArray, .int .i64 i] w post := by
  have HK := hid K; clear K
  have HH := hid h; clear h
  go_enter Try.func31, Try.ntmps31
  go_wp2_with (first
    | (refine wpl_boxA (vs := rnC N) rfl (.tmp 0) rfl rfl st ?_; rintro T w0 s0)
    | (refine wpl_allocA rfl rfl zero43 s0 ?_; rintro E w1 s1)
    | (go_at_call 19; refine rhas_c s1 ?_; rintro w2 s2; rw [HH.out])
    | (refine wpl_loadA (vs := rnC N) rfl (.tmp 2) (by rfl) agg43 (by rfl) (rnC_len _) (St.pick 1 s1).rowAll ?_)
    | (refine wpl_loadA (vs := rnC N) rfl (.tmp 2) (by rfl) agg43 (by rfl) (rnC_len _) (St.pick 1 s2).rowAll ?_)
    | (refine wpl_storeA (vs := rnC N) rfl (.tmp 4) (.tmp 13) (by rfl) agg43 (by rfl) (by rfl) (rnC_len _) (rnC_one _) s2 (rnC_len _) ?_; rintro w3 s3))
  have hL := run_loadA agg43 (rnC_len _) s3.rowAll
  exact bodyPost_ret (v := .tuple #[.agg (rnC N).toArray, .int .i64 0, .slice none 0 0, .int .i64 3]) (by simp [results, Try.results31, asAddr, hL]) rfl (HK.out _ (s3.dropN 2))

set_option maxRecDepth 100000 in
set_option maxHeartbeats 2000000 in
theorem rtake_c {i f t : Nat} {p : PV} (st : St W w R) (rds : Rds W R 4 N.a N.n N.c (pcells ps)) (hi : i < N.n) (hn : N.n ≤ 4096) (hil : i < ps.length) (hp : ps[i] = p) (hf : p.f = f) (ht : p.t = t) (hf12 : f < 12) (ht12 : t < 12) {cb : Bool} (hcb : N.cut f t = cb)
    (K : ∀ a' c' w', St W w' (OwnS 4 a' (N.n - 1) c' (pcells (ps.eraseIdx i)) :: R) →
      post (.returned (if cb then .tuple #[.agg (rnC { N with a := a', n := N.n - 1, c := c' }).toArray, .int .i64 0, .slice none 0 0, .int .i64 13] else .tuple #[.agg (rnC { N with a := a', n := N.n - 1, c := c' }).toArray, .int .i64 t, .slice p.a p.n p.c, .int .i64 0])) w') :
    Calls Try.prog 31 #[.agg (rnC N).toArray, .int .i64 i] w post := by
  have HK := hid K; clear K
  have rd := rds w st
  have hle := rd.le
  have hbig := rd.big
  obtain ⟨g, o, hga⟩ := rd.addr (by omega)
  have HGA := hid hga
  have HRD := hid rds
  have hh : hasR N.n (i : Int) = true := by unfold hasR; simp; omega
  have HH := hid hh
  have HP := hid hp
  have HF := hid hf; have HT := hid ht; have HCB := hid hcb
  have hi1 : (i : Int) < (N.n : Int) := by omega
  clear rd hga rds hh hp hf ht hcb
  go_enter Try.func31, Try.ntmps31
  go_wp2_with (first
    | (refine wpl_boxA (vs := rnC N) rfl (.tmp 0) rfl rfl st ?_; rintro T w0 s0)
    | (refine wpl_allocA rfl rfl zero43 s0 ?_; rintro E w1 s1)
    | (go_at_call 19; refine rhas_c s1 ?_; rintro w2 s2; rw [HH.out]; have g2 := rn_l (St.pick 1 s2); rw [HGA.out] at g2; have r2 := HRD.out _ (s2.dropN 2); rw [HGA.out] at r2; obtain ⟨c0, c1, c2, c3⟩ := parcel4 r2 hil; rw [HP.out] at c0 c1 c2 c3; rw [HF.out] at c0; rw [HT.out] at c1; have s3 := s2.alloc #[.int .i64 f, .int .i64 t, .slice p.a p.n p.c, .bool p.sp] 54)
    | (refine wpl_loadA (vs := rnC N) rfl (.tmp 2) (by rfl) agg43 (by rfl) (rnC_len _) (St.pick 1 s1).rowAll ?_)
    | (refine wpl_loadA (vs := rnC N) rfl (.tmp 2) (by rfl) agg43 (by rfl) (rnC_len _) (St.pick 2 s3).rowAll ?_)
    | (go_at_call 32; refine rlose_c s3 (fun w s => HRD.out w (s.dropN 3)) hi hn ?_; rintro a4 c4 w4 s4)
    | (refine wpl_storeA (vs := rnC { N with a := a4, n := N.n - 1, c := c4 }) rfl (.tmp 2) (.tmp 23) (by rfl) agg43 (by rfl) (by rfl) (rnC_len _) (rnC_one _) (St.pick 3 s4) (rnC_len _) ?_; rintro w5 s5; obtain ⟨b0, b1, b2, b3⟩ := box4 (St.pick 2 s5); have gc := rn_cut s5 hf12 ht12; rw [show ({ N with a := a4, n := N.n - 1, c := c4 } : RN).cut f t = cb from HCB.out] at gc))
  have hf12' : (f : Int) < 12 := by omega
  have ht12' : (t : Int) < 12 := by omega
  go_quiet (fail)
  have s6 := s5.drewN nq
  generalize w5.drewN nq = w6 at s6 ⊢
  cases cb with
  | true =>
    simp only [if_true] at HK
    go_wp2_with (first
      | (refine wpl_loadA (vs := rnC { N with a := a4, n := N.n - 1, c := c4 }) rfl (.tmp 2) (by rfl) agg43 (by rfl) (rnC_len _) s6.rowAll ?_)
      | (refine wpl_storeA (vs := rnC { N with a := a4, n := N.n - 1, c := c4 }) rfl (.tmp 4) (.tmp 33) (by rfl) agg43 (by rfl) (by rfl) (rnC_len _) (rnC_one _) (St.pick 3 s6) (rnC_len _) ?_; rintro w7 s7))
    have hL := run_loadA agg43 (rnC_len _) s7.rowAll
    exact bodyPost_ret (v := .tuple #[.agg (rnC { N with a := a4, n := N.n - 1, c := c4 }).toArray, .int .i64 0, .slice none 0 0, .int .i64 13]) (by simp [results, Try.results31, asAddr, hL]) rfl (HK.out _ _ _ ((s7.perm [0, 0, 1]).dropN 3))
  | false =>
    simp only [Bool.false_eq_true, if_false] at HK
    go_wp2_with fail
    have s7 := s6.drew
    have s8 := set43 (M := { N with a := a4, n := N.n - 1, c := c4 }) (St.pick 3 s7)
    have fA := And.intro (lg43 s7) (And.intro (box4 (St.pick 2 s7)).2.1 (And.intro (box4 (St.pick 2 s7)).2.2.1 (sg43 (M := { N with a := a4, n := N.n - 1, c := c4 }) (St.pick 3 s7))))
    have g8 := And.intro (lg43 (St.pick 1 s8)) (And.intro (box4 (St.pick 3 s8)).2.1 (And.intro (box4 (St.pick 3 s8)).2.2.1 (sg43 (M := { N with a := a4, n := N.n - 1, c := c4 }) s8)))
    go_region_held3 (fun w' => (loadG 43 (.pointer (some ⟨T, 0, none⟩))).run Try.prog w' = .ok (.agg (rnC { N with a := a4, n := N.n - 1, c := c4 }).toArray) w' ∧ w'.cell? ⟨w2.heap.size, 1, none⟩ = some (.int .i64 t) ∧ w'.cell? ⟨w2.heap.size, 2, none⟩ = some (.slice p.a p.n p.c) ∧ (storeG 43 (.pointer (some ⟨E, 0, none⟩)) (.agg (rnC { N with a := a4, n := N.n - 1, c := c4 }).toArray)).run Try.prog w' = .ok () (w'.setCells E 0 (rnC { N with a := a4, n := N.n - 1, c := c4 })))
      (first
        | with_reducible exact fA
        | with_reducible exact g8)
      (fail)
    all_goals
      go_wp2
      have hL := run_loadA agg43 (rnC_len _) s8.rowAll
      exact bodyPost_ret (v := .tuple #[.agg (rnC { N with a := a4, n := N.n - 1, c := c4 }).toArray, .int .i64 t, .slice p.a p.n p.c, .int .i64 0]) (by simp [results, Try.results31, asAddr, hL]) rfl (HK.out _ _ _ ((s8.perm [0, 0, 1]).dropN 3))

end

end Go.Proofs.Ytnibgchgcggfbab
