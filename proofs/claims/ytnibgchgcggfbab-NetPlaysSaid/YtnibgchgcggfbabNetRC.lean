/- The reference's net: Send. -/
import Derived.Test.YtnibgchgcggfbabNetRB
namespace Go.Proofs.Ytnibgchgcggfbab
open Go.RowKit Go.Qd

theorem execOp_load43 (ρ : Operand → Value) (dst : Option Tmp) (a : Operand) (ty : TypeId) (pos : String) (after : Array Edge) (guard : Option (Nat × Bool)) :
    execOp ρ { dst, op := .load 43 a, type := ty, pos, after, guard } = (do pure (.value (← loadG 43 (ρ a)))) := rfl
theorem execOp_store43 (ρ : Operand → Value) (dst : Option Tmp) (a x : Operand) (ty : TypeId) (pos : String) (after : Array Edge) (guard : Option (Nat × Bool)) :
    execOp ρ { dst, op := .store 43 a x, type := ty, pos, after, guard } = (do storeG 43 (ρ a) (ρ x); pure .skip) := rfl
attribute [local go_sem ↓] execOp_load43 execOp_store43

section
variable {W w : World} {R : List HP} {post : Ending → World → Prop} {B : Nat} {N : RN} {ps : List PV}

theorem lg43 (s : St W w (row B 0 (rnC N) :: R)) : (loadG 43 (.pointer (some ⟨B, 0, none⟩))).run Try.prog w = .ok (.agg (rnC N).toArray) w := run_loadG agg43 (rnC_len _) s.rowAll
theorem sg43 {M : RN} (s : St W w (row B 0 (rnC N) :: R)) : (storeG 43 (.pointer (some ⟨B, 0, none⟩)) (.agg (rnC M).toArray)).run Try.prog w = .ok () (w.setCells B 0 (rnC M)) := run_storeG agg43 (s.roomG (n := 148) (rnC_len _)) ⟨rnC_len _, rnC_one _⟩
theorem set43 {M : RN} (s : St W w (row B 0 (rnC N) :: R)) : St W (w.setCells B 0 (rnC M)) (row B 0 (rnC M) :: R) := s.setAll (by rw [rnC_len, rnC_len])

set_option maxRecDepth 100000 in
set_option maxHeartbeats 1000000 in
theorem rsend_link {x y : Int} {ao : Option Addr} {n c : Nat} (st : St W w R) (hl : linkB N.nodes x y = false)
    (K : ∀ w', St W w' R → post (.returned (.tuple #[.agg (rnC N).toArray, .bool false])) w') :
    Calls Try.prog 30 #[.agg (rnC N).toArray, .int .i64 x, .int .i64 y, .slice ao n c] w post := by
  have HK := hid K; clear K
  have HL := hid hl; clear hl
  go_enter Try.func30, Try.ntmps30
  go_wp2_with (first
    | (refine wpl_boxA (vs := rnC N) rfl (.tmp 0) rfl rfl st ?_; rintro T w0 s0)
    | (refine wpl_allocA rfl rfl zero43 s0 ?_; rintro E w1 s1)
    | (go_at_call 36; refine link_c s1 ?_; rintro w2 s2; rw [HL.out])
    | (refine wpl_loadA (vs := rnC N) rfl (.tmp 4) (by rfl) agg43 (by rfl) (rnC_len _) (St.pick 1 s1).rowAll ?_)
    | (refine wpl_loadA (vs := rnC N) rfl (.tmp 4) (by rfl) agg43 (by rfl) (rnC_len _) (St.pick 1 s2).rowAll ?_)
    | (refine wpl_storeA (vs := rnC N) rfl (.tmp 8) (.tmp 15) (by rfl) agg43 (by rfl) (by rfl) (rnC_len _) (rnC_one _) s2 (rnC_len _) ?_; rintro w3 s3))
  have hL := run_loadA agg43 (rnC_len _) s3.rowAll
  exact bodyPost_ret (v := .tuple #[.agg (rnC N).toArray, .bool false]) (by simp [results, Try.results30, asAddr, hL]) rfl (HK.out _ (s3.dropN 2))

set_option maxRecDepth 100000 in
set_option maxHeartbeats 2000000 in
theorem rsend_full {x y : Int} {ao : Option Addr} {n c : Nat} {bs : List Int} (st : St W w R) (rdb : Rds W R 1 ao n c (bvs bs)) (hnb : n ≤ 4096) (hl : linkB N.nodes x y = true) (hr : ¬ (N.n : Int) < N.room) (hd : 0 ≤ N.dropped ∧ N.dropped ≤ 4611686018427387904)
    (K : ∀ w', St W w' R → post (.returned (.tuple #[.agg (rnC { N with dropped := N.dropped + 1 }).toArray, .bool false])) w') :
    Calls Try.prog 30 #[.agg (rnC N).toArray, .int .i64 x, .int .i64 y, .slice ao n c] w post := by
  have HK := hid K; clear K
  have HL := hid hl; clear hl
  have HR := hid hr; have HD := hid hd; clear hr hd
  have hb0 : (0 + n) * 1 ≤ 140737488355328 := by omega
  have hm0 : 0 + n ≤ maxLen := by unfold maxLen; omega
  go_enter Try.func30, Try.ntmps30
  go_wp2_with (first
    | (refine wpl_boxA (vs := rnC N) rfl (.tmp 0) rfl rfl st ?_; rintro T w0 s0)
    | (refine wpl_allocA rfl rfl zero43 s0 ?_; rintro E w1 s1)
    | (go_at_call 36; refine link_c s1 ?_; rintro w2 s2; rw [HL.out])
    | (refine wpl_loadA (vs := rnC N) rfl (.tmp 4) (by rfl) agg43 (by rfl) (rnC_len _) (St.pick 1 s1).rowAll ?_))
  have f0 := lg43 (St.pick 1 s2.drew)
  have sA := (s2.alloc #[] 5).drew
  have fA := lg43 (St.pick 2 sA)
  have sA' := OwnS.empty (sz := 1) sA.drop (some ⟨w2.heap.size, 0, none⟩)
  have rA := rdb _ (sA.dropN 3)
  go_region_law (first
    | (refine step_append_st rfl (.tmp 19) (.tmp 20) rfl Try.elem28 rfl rfl sA' rA hb0 hm0 ?_; rintro a3 c3 w3 s3; rw [Nat.zero_add, List.nil_append] at s3; rw [Nat.zero_add]; have f3 := lg43 (St.pick 2 s3))
    | (go_simp; go_at_call 39; refine rput_no (p := ⟨x, y, a3, n, c3, bs, false⟩) s3 (by have := HR.out; omega) HD.out ?_; rintro w5 s5; have f5 := sg43 (M := { N with dropped := N.dropped + 1 }) (St.pick 1 s5); have s6 := set43 (M := { N with dropped := N.dropped + 1 }) (St.pick 1 s5)))
  all_goals
    go_wp2
    have hL := run_loadA agg43 (rnC_len _) s6.rowAll
    exact bodyPost_ret (v := .tuple #[.agg (rnC { N with dropped := N.dropped + 1 }).toArray, .bool false]) (by simp [results, Try.results30, asAddr, hL]) rfl (HK.out _ (s6.dropN 3))

set_option maxRecDepth 100000 in
set_option maxHeartbeats 2000000 in
theorem rsend_yes {x y : Int} {ao : Option Addr} {n c : Nat} {bs : List Int} (st : St W w R) (rds : Rds W R 4 N.a N.n N.c (pcells ps)) (rdb : Rds W R 1 ao n c (bvs bs)) (hnb : n ≤ 4096) (hl : linkB N.nodes x y = true) (hr : (N.n : Int) < N.room) (hm : N.room ≤ 4096)
    (K : ∀ a' c' ab cb w', St W w' (OwnS 4 a' (N.n + 1) c' (pcells (ps ++ [⟨x, y, ab, n, cb, bs, false⟩])) :: OwnS 1 ab n cb (bvs bs) :: R) → post (.returned (.tuple #[.agg (rnC { N with a := a', n := N.n + 1, c := c' }).toArray, .bool true])) w') :
    Calls Try.prog 30 #[.agg (rnC N).toArray, .int .i64 x, .int .i64 y, .slice ao n c] w post := by
  have HK := hid K; clear K
  have HL := hid hl; clear hl
  have HR := hid (And.intro hr hm); clear hr hm
  have hb0 : (0 + n) * 1 ≤ 140737488355328 := by omega
  have hm0 : 0 + n ≤ maxLen := by unfold maxLen; omega
  go_enter Try.func30, Try.ntmps30
  go_wp2_with (first
    | (refine wpl_boxA (vs := rnC N) rfl (.tmp 0) rfl rfl st ?_; rintro T w0 s0)
    | (refine wpl_allocA rfl rfl zero43 s0 ?_; rintro E w1 s1)
    | (go_at_call 36; refine link_c s1 ?_; rintro w2 s2; rw [HL.out])
    | (refine wpl_loadA (vs := rnC N) rfl (.tmp 4) (by rfl) agg43 (by rfl) (rnC_len _) (St.pick 1 s1).rowAll ?_))
  have f0 := lg43 (St.pick 1 s2.drew)
  have sA := (s2.alloc #[] 5).drew
  have fA := lg43 (St.pick 2 sA)
  have sA' := OwnS.empty (sz := 1) sA.drop (some ⟨w2.heap.size, 0, none⟩)
  have rA := rdb _ (sA.dropN 3)
  go_region_law (first
    | (refine step_append_st rfl (.tmp 19) (.tmp 20) rfl Try.elem28 rfl rfl sA' rA hb0 hm0 ?_; rintro a3 c3 w3 s3; rw [Nat.zero_add, List.nil_append] at s3; rw [Nat.zero_add]; have f3 := lg43 (St.pick 2 s3))
    | (go_simp; go_at_call 39; refine rput_yes (ps := ps) (p := ⟨x, y, a3, n, c3, bs, false⟩) s3 (fun w s => rds w (s.dropN 3)) HR.out.1 HR.out.2 ?_; rintro a5 c5 w5 s5; have f5 := sg43 (M := { N with a := a5, n := N.n + 1, c := c5 }) (St.pick 2 s5); have s6 := set43 (M := { N with a := a5, n := N.n + 1, c := c5 }) (St.pick 2 s5)))
  all_goals
    go_wp2
    have hL := run_loadA agg43 (rnC_len _) s6.rowAll
    exact bodyPost_ret (v := .tuple #[.agg (rnC { N with a := a5, n := N.n + 1, c := c5 }).toArray, .bool true]) (by simp [results, Try.results30, asAddr, hL]) rfl (HK.out _ _ _ _ _ ((s6.perm [0, 2, 0, 0]).dropN 2))

end

end Go.Proofs.Ytnibgchgcggfbab
