/- The reference's net: Copy. -/
import Derived.Test.YtnibgchgcggfbabNetRD
namespace Go.Proofs.Ytnibgchgcggfbab
open Go.RowKit Go.Qd
attribute [local go_sem ↓] execOp_load43 execOp_store43

section
variable {W w : World} {R : List HP} {post : Ending → World → Prop} {B : Nat} {N : RN} {ps : List PV}

set_option maxRecDepth 100000 in
set_option maxHeartbeats 1000000 in
theorem rcopy_no {i : Int} (st : St W w R) (h : hasR N.n i = false)
    (K : ∀ w', St W w' R → post (.returned (.tuple #[.agg (rnC N).toArray, .int .i64 3])) w') :
    Calls Try.prog 33 #[.agg (rnC N).toArray, .int .i64 i] w post := by
  have HK := hid K; clear K
  have HH := hid h; clear h
  go_enter Try.func33, Try.ntmps33
  go_wp2_with (first
    | (refine wpl_boxA (vs := rnC N) rfl (.tmp 0) rfl rfl st ?_; rintro T w0 s0)
    | (refine wpl_allocA rfl rfl zero43 s0 ?_; rintro E w1 s1)
    | (go_at_call 19; refine rhas_c s1 ?_; rintro w2 s2; rw [HH.out])
    | (refine wpl_loadA (vs := rnC N) rfl (.tmp 2) (by rfl) agg43 (by rfl) (rnC_len _) (St.pick 1 s1).rowAll ?_)
    | (refine wpl_loadA (vs := rnC N) rfl (.tmp 2) (by rfl) agg43 (by rfl) (rnC_len _) (St.pick 1 s2).rowAll ?_)
    | (refine wpl_storeA (vs := rnC N) rfl (.tmp 4) (.tmp 11) (by rfl) agg43 (by rfl) (by rfl) (rnC_len _) (rnC_one _) s2 (rnC_len _) ?_; rintro w3 s3))
  have hL := run_loadA agg43 (rnC_len _) s3.rowAll
  exact bodyPost_ret (v := .tuple #[.agg (rnC N).toArray, .int .i64 3]) (by simp [results, Try.results33, asAddr, hL]) rfl (HK.out _ (s3.dropN 2))

set_option maxRecDepth 100000 in
set_option maxHeartbeats 2000000 in
theorem rcopy_full {i : Nat} (st : St W w R) (rds : Rds W R 4 N.a N.n N.c (pcells ps)) (hi : i < N.n) (hil : i < ps.length) (hr : ¬ (N.n : Int) < N.room) (hd : 0 ≤ N.dropped ∧ N.dropped ≤ 4611686018427387904)
    (K : ∀ w', St W w' R → post (.returned (.tuple #[.agg (rnC { N with dropped := N.dropped + 1 }).toArray, .int .i64 7])) w') :
    Calls Try.prog 33 #[.agg (rnC N).toArray, .int .i64 i] w post := by
  have HK := hid K; clear K
  have rd := rds w st
  have hle := rd.le
  have hbig := rd.big
  obtain ⟨g, o, hga⟩ := rd.addr (by omega)
  obtain ⟨p, hp⟩ : ∃ p, ps[i] = p := ⟨_, rfl⟩
  have HGA := hid hga
  have HRD := hid rds
  have hh : hasR N.n (i : Int) = true := by unfold hasR; simp; omega
  have HH := hid hh
  have HP := hid hp
  have HR := hid hr; have HD := hid hd
  have hi1 : (i : Int) < (N.n : Int) := by omega
  clear rd hga rds hh hp hr hd
  go_enter Try.func33, Try.ntmps33
  go_wp2_with (first
    | (refine wpl_boxA (vs := rnC N) rfl (.tmp 0) rfl rfl st ?_; rintro T w0 s0)
    | (refine wpl_allocA rfl rfl zero43 s0 ?_; rintro E w1 s1)
    | (go_at_call 19; refine rhas_c s1 ?_; rintro w2 s2; rw [HH.out]; have g2 := rn_l (St.pick 1 s2); rw [HGA.out] at g2; have r2 := HRD.out _ (s2.dropN 2); rw [HGA.out] at r2; obtain ⟨c0, c1, c2, c3⟩ := parcel4 r2 hil; rw [HP.out] at c0 c1 c2 c3)
    | (refine wpl_loadA (vs := rnC N) rfl (.tmp 2) (by rfl) agg43 (by rfl) (rnC_len _) (St.pick 1 s1).rowAll ?_))
  have f0 := lg43 (St.pick 1 s2.drew)
  go_region_law (first
    | (go_simp; go_at_call 39; refine rput_no (p := p) s2.drew (by have := HR.out; omega) HD.out ?_; rintro w5 s5; have f5 := sg43 (M := { N with dropped := N.dropped + 1 }) (St.pick 1 s5); have s6 := set43 (M := { N with dropped := N.dropped + 1 }) (St.pick 1 s5)))
  all_goals
    go_wp2_with (first
      | (refine wpl_loadA (vs := rnC { N with dropped := N.dropped + 1 }) rfl (.tmp 2) (by rfl) agg43 (by rfl) (rnC_len _) s6.rowAll ?_)
      | (refine wpl_storeA (vs := rnC { N with dropped := N.dropped + 1 }) rfl (.tmp 4) (.tmp 24) (by rfl) agg43 (by rfl) (by rfl) (rnC_len _) (rnC_one _) (St.pick 1 s6) (rnC_len _) ?_; rintro w7 s7))
    have hL := run_loadA agg43 (rnC_len _) s7.rowAll
    exact bodyPost_ret (v := .tuple #[.agg (rnC { N with dropped := N.dropped + 1 }).toArray, .int .i64 7]) (by simp [results, Try.results33, asAddr, hL]) rfl (HK.out _ (s7.dropN 2))

set_option maxRecDepth 100000 in
set_option maxHeartbeats 2000000 in
theorem rcopy_c {i : Nat} (st : St W w R) (rds : Rds W R 4 N.a N.n N.c (pcells ps)) (hi : i < N.n) (hil : i < ps.length) (hr : (N.n : Int) < N.room) (hm : N.room ≤ 4096)
    (K : ∀ a' c' w', St W w' (OwnS 4 a' (N.n + 1) c' (pcells (ps ++ [ps[i]])) :: R) → post (.returned (.tuple #[.agg (rnC { N with a := a', n := N.n + 1, c := c' }).toArray, .int .i64 0])) w') :
    Calls Try.prog 33 #[.agg (rnC N).toArray, .int .i64 i] w post := by
  have HK := hid K; clear K
  have rd := rds w st
  have hle := rd.le
  have hbig := rd.big
  obtain ⟨g, o, hga⟩ := rd.addr (by omega)
  obtain ⟨p, hp⟩ : ∃ p, ps[i] = p := ⟨_, rfl⟩
  rw [hp] at HK
  have HGA := hid hga
  have HRD := hid rds
  have hh : hasR N.n (i : Int) = true := by unfold hasR; simp; omega
  have HH := hid hh
  have HP := hid hp
  have HR := hid (And.intro hr hm)
  have hi1 : (i : Int) < (N.n : Int) := by omega
  clear rd hga rds hh hp hr hm
  go_enter Try.func33, Try.ntmps33
  go_wp2_with (first
    | (refine wpl_boxA (vs := rnC N) rfl (.tmp 0) rfl rfl st ?_; rintro T w0 s0)
    | (refine wpl_allocA rfl rfl zero43 s0 ?_; rintro E w1 s1)
    | (go_at_call 19; refine rhas_c s1 ?_; rintro w2 s2; rw [HH.out]; have g2 := rn_l (St.pick 1 s2); rw [HGA.out] at g2; have r2 := HRD.out _ (s2.dropN 2); rw [HGA.out] at r2; obtain ⟨c0, c1, c2, c3⟩ := parcel4 r2 hil; rw [HP.out] at c0 c1 c2 c3)
    | (refine wpl_loadA (vs := rnC N) rfl (.tmp 2) (by rfl) agg43 (by rfl) (rnC_len _) (St.pick 1 s1).rowAll ?_))
  have f0 := lg43 (St.pick 1 s2.drew)
  go_region_law (first
    | (go_simp; go_at_call 39; refine rput_yes (ps := ps) (p := p) s2.drew (fun w s => HRD.out w (s.dropN 2)) HR.out.1 HR.out.2 ?_; rintro a5 c5 w5 s5; have f5 := sg43 (M := { N with a := a5, n := N.n + 1, c := c5 }) (St.pick 2 s5); have s6 := set43 (M := { N with a := a5, n := N.n + 1, c := c5 }) (St.pick 2 s5)))
  all_goals
    go_wp2_with (first
      | (refine wpl_loadA (vs := rnC { N with a := a5, n := N.n + 1, c := c5 }) rfl (.tmp 2) (by rfl) agg43 (by rfl) (rnC_len _) s6.rowAll ?_)
      | (refine wpl_storeA (vs := rnC { N with a := a5, n := N.n + 1, c := c5 }) rfl (.tmp 4) (.tmp 25) (by rfl) agg43 (by rfl) (by rfl) (rnC_len _) (rnC_one _) (St.pick 2 s6) (rnC_len _) ?_; rintro w7 s7))
    have hL := run_loadA agg43 (rnC_len _) s7.rowAll
    exact bodyPost_ret (v := .tuple #[.agg (rnC { N with a := a5, n := N.n + 1, c := c5 }).toArray, .int .i64 0]) (by simp [results, Try.results33, asAddr, hL]) rfl (HK.out _ _ _ ((s7.perm [0, 0]).dropN 2))

end

end Go.Proofs.Ytnibgchgcggfbab
