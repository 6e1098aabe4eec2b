/- The reference's views: New. -/
import Derived.Test.YtnibgchgcggfbacRefF
namespace Go.Proofs.Ytnibgchgcggfbac
open Go.RowKit Go.Qd

theorem none41_one : ∀ u ∈ none41, u.oneCell' = true := by
  intro u hu
  unfold none41 at hu
  simp only [List.mem_cons, List.mem_append, List.mem_replicate, List.not_mem_nil, or_false] at hu
  rcases hu with rfl | ⟨_, rfl⟩ | rfl | rfl <;> rfl

section
variable {W w : World} {R : List HP} {post : Ending → World → Prop}

set_option maxRecDepth 100000 in
set_option maxHeartbeats 800000 in
theorem rnew_no {self am pm : Int} (st : St W w R) (h : ¬ (nodeB self = true ∧ (1 ≤ am ∧ am < 12) ∧ (1 ≤ pm ∧ pm < 12)))
    (K : ∀ w', St W w' R → post (.returned (.tuple #[.agg none41.toArray, .int .i64 1])) w') : Calls Try.prog 19 #[.int .i64 self, .int .i64 am, .int .i64 pm] w post := by
  have HK := hid K; clear K
  obtain ⟨nb, hnb⟩ : ∃ nb, nodeB self = nb := ⟨_, rfl⟩
  have HN := hid hnb
  cases nb with
  | false =>
    clear h hnb
    go_enter Try.func19, Try.ntmps19
    go_wp2_with (first
      | (refine wpl_allocA rfl rfl zero41 st ?_; rintro E w2 s2)
      | (go_at_call 18; refine rnode_c ?_; rw [HN.out])
      | (refine wpl_storeA (vs := none41) rfl (.tmp 6) (.tmp 27) (by rfl) agg41 (by rfl) (by rfl) rfl none41_one s2 rfl ?_; rintro w3 s3))
    have hL := run_loadA agg41 (vs := none41) rfl s3.rowAll
    exact bodyPost_ret (v := .tuple #[.agg none41.toArray, .int .i64 1]) (by simp [results, Try.results19, asAddr, hL]) rfl (HK.out _ s3.drop)
  | true =>
    by_cases h1 : am < 1
    · clear h hnb
      go_enter Try.func19, Try.ntmps19
      go_wp2_with (first
        | (refine wpl_allocA rfl rfl zero41 st ?_; rintro E w2 s2)
        | (go_at_call 18; refine rnode_c ?_; rw [HN.out])
        | (refine wpl_storeA (vs := none41) rfl (.tmp 6) (.tmp 27) (by rfl) agg41 (by rfl) (by rfl) rfl none41_one s2 rfl ?_; rintro w3 s3))
      have hL := run_loadA agg41 (vs := none41) rfl s3.rowAll
      exact bodyPost_ret (v := .tuple #[.agg none41.toArray, .int .i64 1]) (by simp [results, Try.results19, asAddr, hL]) rfl (HK.out _ s3.drop)
    · by_cases h2 : 11 < am
      · clear h hnb
        go_enter Try.func19, Try.ntmps19
        go_wp2_with (first
          | (refine wpl_allocA rfl rfl zero41 st ?_; rintro E w2 s2)
          | (go_at_call 18; refine rnode_c ?_; rw [HN.out])
          | (refine wpl_storeA (vs := none41) rfl (.tmp 6) (.tmp 27) (by rfl) agg41 (by rfl) (by rfl) rfl none41_one s2 rfl ?_; rintro w3 s3))
        have hL := run_loadA agg41 (vs := none41) rfl s3.rowAll
        exact bodyPost_ret (v := .tuple #[.agg none41.toArray, .int .i64 1]) (by simp [results, Try.results19, asAddr, hL]) rfl (HK.out _ s3.drop)
      · by_cases h3 : pm < 1
        · clear h hnb
          go_enter Try.func19, Try.ntmps19
          go_wp2_with (first
            | (refine wpl_allocA rfl rfl zero41 st ?_; rintro E w2 s2)
            | (go_at_call 18; refine rnode_c ?_; rw [HN.out])
            | (refine wpl_storeA (vs := none41) rfl (.tmp 6) (.tmp 27) (by rfl) agg41 (by rfl) (by rfl) rfl none41_one s2 rfl ?_; rintro w3 s3))
          have hL := run_loadA agg41 (vs := none41) rfl s3.rowAll
          exact bodyPost_ret (v := .tuple #[.agg none41.toArray, .int .i64 1]) (by simp [results, Try.results19, asAddr, hL]) rfl (HK.out _ s3.drop)
        · have h4 : 11 < pm := by
            by_cases g : 11 < pm
            · exact g
            · exact absurd ⟨hnb, by omega, by omega⟩ h
          clear h hnb
          go_enter Try.func19, Try.ntmps19
          go_wp2_with (first
            | (refine wpl_allocA rfl rfl zero41 st ?_; rintro E w2 s2)
            | (go_at_call 18; refine rnode_c ?_; rw [HN.out])
            | (refine wpl_storeA (vs := none41) rfl (.tmp 6) (.tmp 27) (by rfl) agg41 (by rfl) (by rfl) rfl none41_one s2 rfl ?_; rintro w3 s3))
          have hL := run_loadA agg41 (vs := none41) rfl s3.rowAll
          exact bodyPost_ret (v := .tuple #[.agg none41.toArray, .int .i64 1]) (by simp [results, Try.results19, asAddr, hL]) rfl (HK.out _ s3.drop)

set_option maxRecDepth 100000 in
set_option maxHeartbeats 800000 in
theorem rnew_c {self am pm : Int} (st : St W w R) (h : nodeB self = true ∧ (1 ≤ am ∧ am < 12) ∧ (1 ≤ pm ∧ pm < 12))
    (K : ∀ w', St W w' R → post (.returned (.tuple #[.agg (refCells ⟨self, [], am, [], pm⟩).toArray, .int .i64 0])) w') : Calls Try.prog 19 #[.int .i64 self, .int .i64 am, .int .i64 pm] w post := by
  have HK := hid K; clear K
  obtain ⟨h1, ⟨h2, h3⟩, h4, h5⟩ := h
  have HN := hid h1
  clear h1
  go_enter Try.func19, Try.ntmps19
  go_wp2_with (first
    | (refine wpl_allocA rfl rfl zero41 st ?_; rintro E w2 s2)
    | (go_at_call 18; refine rnode_c ?_; rw [HN.out])
    | (refine wpl_storeA (vs := refCells ⟨self, [], am, [], pm⟩) rfl (.tmp 6) (.tmp 31) (by rfl) agg41 (by rfl) (by rfl) (refCells_len _) (refCells_one _) s2 rfl ?_; rintro w3 s3))
  have hL := run_loadA agg41 (refCells_len _) s3.rowAll
  exact bodyPost_ret (v := .tuple #[.agg (refCells ⟨self, [], am, [], pm⟩).toArray, .int .i64 0]) (by simp [results, Try.results19, asAddr, hL]) rfl (HK.out _ s3.drop)

end

end Go.Proofs.Ytnibgchgcggfbac
