/- setup: a configuration's numbers: Of, places, List. -/
import Derived.Test.YtbpdchaeakihkaaGreatOverB
namespace Go.Proofs.YtbpdchaeakihkaaGreat
open Go.RowKit Go.Qd

theorem list20 {c : List Int} (h : c.length = 20) : ∃ a b d e f g i j k l m n o p q r s t u v : Int, c = [a, b, d, e, f, g, i, j, k, l, m, n, o, p, q, r, s, t, u, v] := by
  match c, h with
  | [a, b, d, e, f, g, i, j, k, l, m, n, o, p, q, r, s, t, u, v], _ => exact ⟨a, b, d, e, f, g, i, j, k, l, m, n, o, p, q, r, s, t, u, v, rfl⟩

theorem zero32 (w : World) : (zeroValue 32).run Tryz.prog w = .ok (.agg (ivs (List.replicate 20 0)).toArray) w := by kernel_rfl
theorem zero22 (w : World) : (zeroValue 22).run Tryz.prog w = .ok (.agg (ivs (List.replicate 20 0)).toArray) w := by kernel_rfl

section
variable {W w : World} {R : List HP} {post : Ending → World → Prop} {c : List Int}

theorem cfgs {T : Nat} {x0 x1 x2 x3 x4 x5 x6 x7 x8 x9 x10 x11 x12 x13 x14 x15 x16 x17 x18 x19 : Int} (s : St W w (row T 0 (ivs [x0, x1, x2, x3, x4, x5, x6, x7, x8, x9, x10, x11, x12, x13, x14, x15, x16, x17, x18, x19]) :: R)) :
    w.cell? ⟨T, 0, none⟩ = some (.int .i64 x0) ∧ w.cell? ⟨T, 1, none⟩ = some (.int .i64 x1) ∧ w.cell? ⟨T, 2, none⟩ = some (.int .i64 x2) ∧ w.cell? ⟨T, 3, none⟩ = some (.int .i64 x3) ∧ w.cell? ⟨T, 4, none⟩ = some (.int .i64 x4) ∧ w.cell? ⟨T, 5, none⟩ = some (.int .i64 x5) ∧ w.cell? ⟨T, 6, none⟩ = some (.int .i64 x6) ∧ w.cell? ⟨T, 7, none⟩ = some (.int .i64 x7) ∧ w.cell? ⟨T, 8, none⟩ = some (.int .i64 x8) ∧ w.cell? ⟨T, 9, none⟩ = some (.int .i64 x9) ∧ w.cell? ⟨T, 10, none⟩ = some (.int .i64 x10) ∧ w.cell? ⟨T, 11, none⟩ = some (.int .i64 x11) ∧ w.cell? ⟨T, 12, none⟩ = some (.int .i64 x12) ∧ w.cell? ⟨T, 13, none⟩ = some (.int .i64 x13) ∧ w.cell? ⟨T, 14, none⟩ = some (.int .i64 x14) ∧ w.cell? ⟨T, 15, none⟩ = some (.int .i64 x15) ∧ w.cell? ⟨T, 16, none⟩ = some (.int .i64 x16) ∧ w.cell? ⟨T, 17, none⟩ = some (.int .i64 x17) ∧ w.cell? ⟨T, 18, none⟩ = some (.int .i64 x18) ∧ w.cell? ⟨T, 19, none⟩ = some (.int .i64 x19) :=
  ⟨cfg_at s (i := 0) (by simp), cfg_at s (i := 1) (by simp), cfg_at s (i := 2) (by simp), cfg_at s (i := 3) (by simp), cfg_at s (i := 4) (by simp), cfg_at s (i := 5) (by simp), cfg_at s (i := 6) (by simp), cfg_at s (i := 7) (by simp), cfg_at s (i := 8) (by simp), cfg_at s (i := 9) (by simp), cfg_at s (i := 10) (by simp), cfg_at s (i := 11) (by simp), cfg_at s (i := 12) (by simp), cfg_at s (i := 13) (by simp), cfg_at s (i := 14) (by simp), cfg_at s (i := 15) (by simp), cfg_at s (i := 16) (by simp), cfg_at s (i := 17) (by simp), cfg_at s (i := 18) (by simp), cfg_at s (i := 19) (by simp)⟩

set_option maxRecDepth 100000 in
set_option maxHeartbeats 4000000 in
theorem of_c (st : St W w R) (hc : c.length = 20) (K : ∀ w', St W w' R → post (.returned (.agg (ivs c).toArray)) w') : Calls Tryz.prog 13 #[.agg (ivs c).toArray] w post := by
  have HK := hid K; clear K
  obtain ⟨x0, x1, x2, x3, x4, x5, x6, x7, x8, x9, x10, x11, x12, x13, x14, x15, x16, x17, x18, x19, rfl⟩ := list20 hc
  clear hc
  go_enter Tryz.func13, Tryz.ntmps13
  go_wp2_with (first
    | (refine wpl_boxA (vs := ivs [x0, x1, x2, x3, x4, x5, x6, x7, x8, x9, x10, x11, x12, x13, x14, x15, x16, x17, x18, x19]) rfl (.tmp 0) rfl rfl st ?_; rintro T w0 s0)
    | (refine wpl_allocA rfl rfl zero32 s0 ?_; rintro E w1 s1
       obtain ⟨k0, k1, k2, k3, k4, k5, k6, k7, k8, k9, k10, k11, k12, k13, k14, k15, k16, k17, k18, k19⟩ := cfgs (St.pick 1 s1))
    | (refine wpl_build (v := .agg (ivs [x0, x1, x2, x3, x4, x5, x6, x7, x8, x9, x10, x11, x12, x13, x14, x15, x16, x17, x18, x19]).toArray) rfl rfl (by kernel_rfl) ?_)
    | (refine wpl_storeA (vs := ivs [x0, x1, x2, x3, x4, x5, x6, x7, x8, x9, x10, x11, x12, x13, x14, x15, x16, x17, x18, x19]) rfl (.tmp 2) (.tmp 43) (by rfl) agg32 (by rfl) (by rfl) rfl (ivs_one _) s1 rfl ?_; rintro w2 s2))
  have hL := run_loadA agg32 (ivs_len20 rfl) s2.rowAll
  exact bodyPost_ret (v := .agg (ivs [x0, x1, x2, x3, x4, x5, x6, x7, x8, x9, x10, x11, x12, x13, x14, x15, x16, x17, x18, x19]).toArray) (by simp [results, Tryz.results13, asAddr, hL, Act.put]) rfl (HK.out _ (s2.dropN 2))

/-- Where a configuration's numbers lie. -/
def ptrs (T : Nat) : List Value := (List.range 20).map fun k => .pointer (some ⟨T, k, none⟩)
theorem ptrs_len (T : Nat) : (ptrs T).length = 20 := by simp [ptrs]
theorem ptrs_get {T k : Nat} (h : k < 20) : (ptrs T)[k]? = some (.pointer (some ⟨T, k, none⟩)) := by simp [ptrs, h]
theorem ptrs_one (T : Nat) : ∀ u ∈ ptrs T, u.oneCell' = true := by
  intro u hu; unfold ptrs at hu; obtain ⟨p, _, rfl⟩ := List.mem_map.1 hu; rfl
theorem agg185 : AggT Tryz.prog 185 20 := ⟨⟨_, Tryz.underlying185, rfl⟩, by kernel_rfl⟩
theorem zero185 (w : World) : (zeroValue 185).run Tryz.prog w = .ok (.agg (List.replicate 20 (.pointer none)).toArray) w := by kernel_rfl

set_option maxRecDepth 100000 in
set_option maxHeartbeats 8000000 in
theorem places_c {T : Nat} (st : St W w R) (K : ∀ w', St W w' R → post (.returned (.agg (ptrs T).toArray)) w') : Calls Tryz.prog 133 #[.pointer (some ⟨T, 0, none⟩)] w post := by
  have HK := hid K; clear K
  go_enter Tryz.func133, Tryz.ntmps133
  go_wp2_with (refine wpl_allocA rfl rfl zero185 st ?_; rintro E w1 s1)
  go_still_tail 61, (by kernel_rfl)
  have s2 := s1.drew
  change wpList _ _ _ _ _ w1.drew
  generalize w1.drew = w2 at s2 ⊢
  go_wp2_with (refine wpl_storeA (vs := ptrs T) rfl (.tmp 2) (.tmp 63) (by rfl) agg185 (by rfl) (by rfl) (ptrs_len T) (ptrs_one T) s2 rfl ?_; rintro w3 s3)
  have hL := run_loadA agg185 (ptrs_len T) s3.rowAll
  exact bodyPost_ret (v := .agg (ptrs T).toArray) (by simp [results, Tryz.results133, asAddr, hL, Act.put]) rfl (HK.out _ s3.drop)

theorem takeUp {c : List Int} {i : Nat} (h : i < c.length) (n : Nat) : ((c.take i ++ List.replicate (n + 1) (0 : Int)).set i (c.getD i 0)) = c.take (i + 1) ++ List.replicate n 0 := by
  have hl : (c.take i).length = i := by simp; omega
  rw [List.set_append_right _ _ (by omega), hl, Nat.sub_self, List.replicate_succ, List.set_cons_zero, List.take_succ_eq_append_getElem h, List.append_assoc]
  have e : c.getD i 0 = c[i] := by simp [h]
  rw [e]; rfl

set_option maxRecDepth 100000 in
set_option maxHeartbeats 2000000 in
theorem list_setup_c (st : St W w R) (hc : c.length = 20) (K : ∀ w', St W w' R → post (.returned (.agg (ivs c).toArray)) w') : Calls Tryz.prog 80 #[.agg (ivs c).toArray] w post := by
  have HK := hid K; clear K
  have HC := hid hc; clear hc
  go_enter Tryz.func80, Tryz.ntmps80
  go_wp2_with (first
    | (refine wpl_boxA (vs := ivs c) rfl (.tmp 0) rfl rfl st ?_; rintro T w0 s0)
    | (go_at_call 133; refine places_c s2 ?_; rintro w3 s3)
    | (refine wpl_allocA rfl rfl zero22 s1 ?_; rintro O w2 s2)
    | (refine wpl_allocA rfl rfl zero22 s0 ?_; rintro E w1 s1))
  go_loopw [7] (fun ii wr => ∃ i : Nat, i ≤ 20 ∧ ii = .int .i64 i ∧ St W wr (row O 0 (ivs (c.take i ++ List.replicate (20 - i) 0)) :: row E 0 (ivs (List.replicate 20 0)) :: row T 0 (ivs c) :: R)) (fun ii _ => 20 - (intOf ii).toNat)
  case atStart => exact ⟨0, Nat.zero_le _, rfl, s3⟩
  case round =>
    obtain ⟨i, hi, rfl, sr⟩ := hrel
    by_cases hlt : i < 20
    · have hi20 : (i : Int) < 20 := by omega
      have hcl := HC.out
      have c1 := cfg_at (St.pick 2 sr) (i := i) (by rw [HC.out]; omega)
      have f1 := sr.rowFree (i := i) (by rw [ivs_length]; simp; omega)
      have hl : (c.take i).length = i := by rw [List.length_take, hcl]; omega
      have d1 := sr.rowCell (i := i) (v := iv 0) (by
        rw [show ivs (c.take i ++ List.replicate (20 - i) 0) = ivs (c.take i) ++ ivs (List.replicate (20 - i) 0) from ivs_append _ _, List.getElem?_append_right (by rw [ivs_length, hl]; exact Nat.le_refl _), ivs_length, hl, Nat.sub_self]
        rw [show ivs (List.replicate (20 - i) 0) = List.replicate (20 - i) (iv 0) from by simp [ivs], List.getElem?_replicate, if_pos (by omega)])
      rw [Nat.zero_add] at f1 d1
      have s5 := sr.rowSet (i := i) (by rw [ivs_length]; simp; omega) (.int .i64 (c.getD i 0))
      have hu : (ivs (c.take i ++ List.replicate (20 - i) 0)).set i (.int .i64 (c.getD i 0)) = ivs (c.take (i + 1) ++ List.replicate (20 - (i + 1)) 0) := by
        rw [← takeUp (by rw [HC.out]; omega) (20 - (i + 1)), show 20 - (i + 1) + 1 = 20 - i by omega]
        simp [ivs, List.map_set]
      rw [hu, Nat.zero_add] at s5
      obtain ⟨x, hx⟩ : ∃ x, c.getD i 0 = x := ⟨_, rfl⟩
      rw [hx] at c1 s5
      clear hu hx hcl hl
      go_wp2_with (first
        | (refine wpl_index rfl (.tmp 6) (.tmp 7) rfl (by rfl) (by rfl) (run_index1 Tryz.underlying185 (by kernel_rfl) (by kernel_rfl) hlt (ptrs_get hlt)) ?_))
      go_roundw
      case rel => exact ⟨i + 1, by omega, by go_num, s5⟩
      case measure => simp [intOf]; omega
    · have hi20 : i = 20 := by omega
      subst hi20
      have e : c.take 20 ++ List.replicate (20 - 20) 0 = c := by rw [List.take_of_length_le (by rw [HC.out]; exact Nat.le_refl _)]; simp
      rw [e] at sr
      clear e
      go_wp2_with (first
        | (refine wpl_loadA (vs := ivs c) rfl (.tmp 3) (by rfl) agg22 (by rfl) (ivs_len20 HC.out) sr.rowAll ?_)
        | (refine wpl_storeA (vs := ivs c) rfl (.tmp 2) (.tmp 17) (by rfl) agg22 (by rfl) (by rfl) (ivs_len20 HC.out) (ivs_one _) (St.pick 1 sr) rfl ?_; rintro w5 s5))
      have hL := run_loadA agg22 (ivs_len20 HC.out) s5.rowAll
      exact bodyPost_ret (v := .agg (ivs c).toArray) (by simp [results, Tryz.results80, asAddr, hL, Act.put]) rfl (HK.out _ (s5.dropN 3))

end

end Go.Proofs.YtbpdchaeakihkaaGreat
