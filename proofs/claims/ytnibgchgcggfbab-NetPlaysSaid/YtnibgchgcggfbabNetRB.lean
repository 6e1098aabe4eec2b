/- The reference's net: parcels and their bytes; put. -/
import Derived.Test.YtnibgchgcggfbabNetRA
namespace Go.Proofs.Ytnibgchgcggfbab
open Go.RowKit Go.Qd

section
variable {W w : World} {R : List HP} {post : Ending → World → Prop} {B : Nat} {N : RN} {ps : List PV} {p : PV}

set_option maxRecDepth 100000 in
set_option maxHeartbeats 1000000 in
theorem rput_no (st : St W w R) (hl : ¬ (N.n : Int) < N.room) (hd : 0 ≤ N.dropped ∧ N.dropped ≤ 4611686018427387904)
    (K : ∀ w', St W w' R → post (.returned (.tuple #[.agg (rnC { N with dropped := N.dropped + 1 }).toArray, .bool false])) w') :
    Calls Try.prog 39 #[.agg (rnC N).toArray, .agg #[.int .i64 p.f, .int .i64 p.t, .slice p.a p.n p.c, .bool p.sp]] w post := by
  have HK := hid K; clear K
  obtain ⟨hd1, hd2⟩ := hd
  have hw : IntKind.i64.wrap (N.dropped + 1) = N.dropped + 1 := IntWalk.i64_in _ (by omega)
  go_enter Try.func39, Try.ntmps39
  go_wp2_with (first
    | (refine wpl_boxA (vs := rnC N) rfl (.tmp 0) rfl rfl st ?_; rintro T w0 s0; have s1 := s0.alloc #[.int .i64 p.f, .int .i64 p.t, .slice p.a p.n p.c, .bool p.sp] 54)
    | (refine wpl_allocA rfl rfl zero43 s1 ?_; rintro E w2 s2; have s3 := St.pick 2 s2; have g1 := rn_room s3; have g2 := rn_l s3; have g3 := rn_drop s3; have g4 := rn_free s3 (i := 147) (by omega); have s4 := rn_setD s3 (N.dropped + 1))
    | (refine wpl_loadA (vs := rnC { N with dropped := N.dropped + 1 }) rfl (.tmp 2) (by rfl) agg43 (by rfl) (rnC_len _) s4.rowAll ?_)
    | (refine wpl_storeA (vs := rnC { N with dropped := N.dropped + 1 }) rfl (.tmp 4) (.tmp 16) (by rfl) agg43 (by rfl) (by rfl) (rnC_len _) (rnC_one _) (St.pick 1 s4) (rnC_len _) ?_; rintro w5 s5))
  have hL := run_loadA agg43 (rnC_len _) s5.rowAll
  exact bodyPost_ret (v := .tuple #[.agg (rnC { N with dropped := N.dropped + 1 }).toArray, .bool false]) (by simp [results, Try.results39, asAddr, hL]) rfl (HK.out _ (s5.dropN 3))

set_option maxRecDepth 100000 in
set_option maxHeartbeats 1000000 in
theorem rput_yes (st : St W w R) (rds : Rds W R 4 N.a N.n N.c (pcells ps)) (hl : (N.n : Int) < N.room) (hr : N.room ≤ 4096)
    (K : ∀ a' c' w', St W w' (OwnS 4 a' (N.n + 1) c' (pcells (ps ++ [p])) :: R) → post (.returned (.tuple #[.agg (rnC { N with a := a', n := N.n + 1, c := c' }).toArray, .bool true])) w') :
    Calls Try.prog 39 #[.agg (rnC N).toArray, .agg #[.int .i64 p.f, .int .i64 p.t, .slice p.a p.n p.c, .bool p.sp]] w post := by
  have HK := hid K; clear K
  have hn : N.n < 4096 := by omega
  have hrd := rds w st
  have hb0 : (0 + N.n) * 48 ≤ 140737488355328 := by omega
  have hm0 : 0 + N.n ≤ maxLen := by unfold maxLen; omega
  have hb1 : (N.n + 1) * 48 ≤ 140737488355328 := by omega
  have hm1 : N.n + 1 ≤ maxLen := by unfold maxLen; omega
  have hone : ∀ u ∈ [Value.int .i64 p.f, .int .i64 p.t, .slice p.a p.n p.c, .bool p.sp], u.oneCell' = true := by simp [Value.oneCell']
  clear hr
  go_enter Try.func39, Try.ntmps39
  go_wp2_with (first
    | (refine wpl_boxA (vs := rnC N) rfl (.tmp 0) rfl rfl st ?_; rintro T w0 s0; have s1 := s0.alloc #[.int .i64 p.f, .int .i64 p.t, .slice p.a p.n p.c, .bool p.sp] 54; generalize hB : w0.heap.size = B at s1 ⊢)
    | (refine wpl_allocA rfl rfl zero43 s1 ?_; rintro E w2 s2; have s3 := St.pick 2 s2; have g1 := rn_room s3; have g2 := rn_l s3; have g4 := rn_free s3 (i := 2) (by omega); obtain ⟨x0, x1, x2, x3⟩ := box4 (St.pick 1 s2)))
  clear hB
  have sA : St W (w2.alloc (.cells #[] 54)).drew (row w2.heap.size 0 [] :: row E 0 (rnC noRN) :: row B 0 [.int .i64 p.f, .int .i64 p.t, .slice p.a p.n p.c, .bool p.sp] :: row T 0 (rnC N) :: R) := (s2.alloc #[] 54).drew
  have gA := rn_l (St.pick 3 sA)
  obtain ⟨v0, v1, v2, v3⟩ := box4 (St.pick 2 sA)
  have rA := rds _ (sA.dropN 4)
  have sA' : St W (w2.alloc (.cells #[] 54)).drew (OwnS 4 (some ⟨w2.heap.size, 0, none⟩) 0 0 [] :: row E 0 (rnC noRN) :: row B 0 [.int .i64 p.f, .int .i64 p.t, .slice p.a p.n p.c, .bool p.sp] :: row T 0 (rnC N) :: R) := OwnS.empty sA.drop _
  have eA : (w2.alloc (.cells #[] 54)).heap.size = w2.heap.size + 1 := Array.size_push ..
  have eB : (w2.alloc (.cells #[.int .i64 p.f, .int .i64 p.t, .slice p.a p.n p.c, .bool p.sp] 54)).heap.size = w2.heap.size + 1 := Array.size_push ..
  have sAB : St W ((w2.alloc (.cells #[] 54)).alloc (.cells #[.int .i64 p.f, .int .i64 p.t, .slice p.a p.n p.c, .bool p.sp] 54)).drew (row (w2.alloc (.cells #[] 54)).heap.size 0 [.int .i64 p.f, .int .i64 p.t, .slice p.a p.n p.c, .bool p.sp] :: row w2.heap.size 0 [] :: row E 0 (rnC noRN) :: row B 0 [.int .i64 p.f, .int .i64 p.t, .slice p.a p.n p.c, .bool p.sp] :: row T 0 (rnC N) :: R) := ((s2.alloc #[] 54).alloc #[.int .i64 p.f, .int .i64 p.t, .slice p.a p.n p.c, .bool p.sp] 54).drew
  rw [eA] at sAB
  have gAB := rn_l (St.pick 4 sAB)
  have rAB := rds _ (sAB.dropN 5)
  have sAB' : St W ((w2.alloc (.cells #[] 54)).alloc (.cells #[.int .i64 p.f, .int .i64 p.t, .slice p.a p.n p.c, .bool p.sp] 54)).drew (OwnS 4 (some ⟨w2.heap.size, 0, none⟩) 0 0 [] :: row (w2.heap.size + 1) 0 [.int .i64 p.f, .int .i64 p.t, .slice p.a p.n p.c, .bool p.sp] :: row E 0 (rnC noRN) :: row B 0 [.int .i64 p.f, .int .i64 p.t, .slice p.a p.n p.c, .bool p.sp] :: row T 0 (rnC N) :: R) := OwnS.empty (St.pick 1 sAB).drop _
  have sB : St W (w2.alloc (.cells #[.int .i64 p.f, .int .i64 p.t, .slice p.a p.n p.c, .bool p.sp] 54)).drew (row w2.heap.size 0 [.int .i64 p.f, .int .i64 p.t, .slice p.a p.n p.c, .bool p.sp] :: row E 0 (rnC noRN) :: row B 0 [.int .i64 p.f, .int .i64 p.t, .slice p.a p.n p.c, .bool p.sp] :: row T 0 (rnC N) :: R) := (s2.alloc #[.int .i64 p.f, .int .i64 p.t, .slice p.a p.n p.c, .bool p.sp] 54).drew
  have gB := rn_l (St.pick 3 sB)
  have sBA : St W ((w2.alloc (.cells #[.int .i64 p.f, .int .i64 p.t, .slice p.a p.n p.c, .bool p.sp] 54)).alloc (.cells #[] 54)).drew (row (w2.alloc (.cells #[.int .i64 p.f, .int .i64 p.t, .slice p.a p.n p.c, .bool p.sp] 54)).heap.size 0 [] :: row w2.heap.size 0 [.int .i64 p.f, .int .i64 p.t, .slice p.a p.n p.c, .bool p.sp] :: row E 0 (rnC noRN) :: row B 0 [.int .i64 p.f, .int .i64 p.t, .slice p.a p.n p.c, .bool p.sp] :: row T 0 (rnC N) :: R) := ((s2.alloc #[.int .i64 p.f, .int .i64 p.t, .slice p.a p.n p.c, .bool p.sp] 54).alloc #[] 54).drew
  rw [eB] at sBA
  have gBA := rn_l (St.pick 4 sBA)
  have rBA := rds _ (sBA.dropN 5)
  have sBA' : St W ((w2.alloc (.cells #[.int .i64 p.f, .int .i64 p.t, .slice p.a p.n p.c, .bool p.sp] 54)).alloc (.cells #[] 54)).drew (OwnS 4 (some ⟨w2.heap.size + 1, 0, none⟩) 0 0 [] :: row w2.heap.size 0 [.int .i64 p.f, .int .i64 p.t, .slice p.a p.n p.c, .bool p.sp] :: row E 0 (rnC noRN) :: row B 0 [.int .i64 p.f, .int .i64 p.t, .slice p.a p.n p.c, .bool p.sp] :: row T 0 (rnC N) :: R) := OwnS.empty sBA.drop _
  go_region_law (first
    | (refine step_append_st rfl (.tmp 20) (.tmp 22) rfl Try.elem39 rfl rfl s5 r4 hb1 hm1 ?_; rintro a6 c6 w6 s6; have g6 := rn_l (St.pick 4 s6); have f6 := rn_free (St.pick 4 s6) (i := 2) (by omega))
    | (refine step_append_st rfl (.tmp 17) (.tmp 19) rfl Try.elem39 rfl rfl sA' rA hb0 hm0 ?_; rintro a3 c3 w3 s3; rw [Nat.zero_add, List.nil_append] at s3; rw [Nat.zero_add]; obtain ⟨y0, y1, y2, y3⟩ := box4 (St.pick 2 s3); have s4 := s3.alloc #[.int .i64 p.f, .int .i64 p.t, .slice p.a p.n p.c, .bool p.sp] 54; have r4 := St.rowRd (sz := 4) (n := 1) s4 rfl (by decide) hone; have s5 := St.pick 1 s4)
    | (refine step_append_st rfl (.tmp 17) (.tmp 19) rfl Try.elem39 rfl rfl sAB' rAB hb0 hm0 ?_; rintro a3 c3 w3 s5; rw [Nat.zero_add, List.nil_append] at s5; rw [Nat.zero_add]; have r4 := St.rowRd (sz := 4) (n := 1) (St.pick 1 s5) rfl (by decide) hone)
    | (refine step_append_st rfl (.tmp 17) (.tmp 19) rfl Try.elem39 rfl rfl sBA' rBA hb0 hm0 ?_; rintro a3 c3 w3 s5; rw [Nat.zero_add, List.nil_append] at s5; rw [Nat.zero_add]; have r4 := St.rowRd (sz := 4) (n := 1) (St.pick 1 s5) rfl (by decide) hone))
  all_goals
    have s7 := rn_setL (St.pick 4 s6) a6 (N.n + 1) c6
    go_wp2_with (first
      | (refine wpl_loadA (vs := rnC { N with a := a6, n := N.n + 1, c := c6 }) rfl (.tmp 2) (by rfl) agg43 (by rfl) (rnC_len _) s7.rowAll ?_)
      | (refine wpl_storeA (vs := rnC { N with a := a6, n := N.n + 1, c := c6 }) rfl (.tmp 4) (.tmp 25) (by rfl) agg43 (by rfl) (by rfl) (rnC_len _) (rnC_one _) (St.pick 3 s7) (rnC_len _) ?_; rintro w8 s8))
    have hL := run_loadA agg43 (rnC_len _) s8.rowAll
    refine bodyPost_ret (v := .tuple #[.agg (rnC { N with a := a6, n := N.n + 1, c := c6 }).toArray, .bool true]) (by simp [results, Try.results39, asAddr, hL]) rfl (HK.out _ _ _ ?_)
    rw [pcells_snoc]
    exact (s8.perm [0, 0, 1, 1]).dropN 4

end

end Go.Proofs.Ytnibgchgcggfbab
