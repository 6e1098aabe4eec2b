/- rota: who is to come in a cycle: the known ones, rising, each once (a plain law). -/
import Derived.Lib.SlicesCompact
import Derived.Test.YtnibgchgcggfbadSets
namespace Go.Qd
open Go.Lib

theorem mem_compact {zs : List Int} {x : Int} : x ∈ compact zs ↔ x ∈ zs := by
  unfold compact compactUpTo
  simp only [List.mem_map, List.mem_filter, List.mem_range]
  constructor
  · rintro ⟨i, ⟨hi, _⟩, rfl⟩
    simp [hi]
  · intro h
    have hex : ∃ j, j < zs.length ∧ zs[j]? = some x := by
      obtain ⟨j, hj, rfl⟩ := List.getElem_of_mem h
      exact ⟨j, hj, by simp [hj]⟩
    have hmin : ∀ n, (∃ j, j ≤ n ∧ j < zs.length ∧ zs[j]? = some x) → ∃ j, j < zs.length ∧ zs[j]? = some x ∧ (j = 0 ∨ zs[j - 1]? ≠ some x) := by
      intro n
      induction n with
      | zero =>
        rintro ⟨j, hj, h1, h2⟩
        obtain rfl : j = 0 := by omega
        exact ⟨0, h1, h2, .inl rfl⟩
      | succ n ih =>
        rintro ⟨j, hj, h1, h2⟩
        by_cases h0 : j = 0
        · exact ⟨j, h1, h2, .inl h0⟩
        · by_cases hp : zs[j - 1]? = some x
          · exact ih ⟨j - 1, by omega, by omega, hp⟩
          · exact ⟨j, h1, h2, .inr hp⟩
    obtain ⟨j0, h1, h2⟩ := hex
    obtain ⟨j, hj, hx, hk⟩ := hmin j0 ⟨j0, Nat.le_refl _, h1, h2⟩
    refine ⟨j, ⟨hj, ?_⟩, by simp [hj] at hx ⊢; exact hx⟩
    rcases hk with rfl | hk
    · exact keeps_lt_one _ 0 (by omega)
    · unfold keeps
      have hj1 : j - 1 < zs.length := by omega
      have e1 : zs[j] = x := by simpa [hj] using hx
      have e2 : zs[j - 1] ≠ x := fun e => hk (by rw [List.getElem?_eq_getElem hj1, e])
      simp [hj, hj1]
      right
      intro e
      exact e2 (by rw [← e1]; exact e.symm)

theorem compact_sorted {zs : List Int} (h : zs.Pairwise (· ≤ ·)) : (compact zs).Pairwise (· < ·) := by
  unfold compact compactUpTo
  rw [List.pairwise_map]
  have hr : (List.range zs.length).Pairwise (· < ·) := List.pairwise_lt_range
  refine (hr.filter (keeps zs.toArray)).imp_of_mem ?_
  intro i j hi hj hij
  simp only [List.mem_filter, List.mem_range] at hi hj
  have hj' := hj.1
  have hi' := hi.1
  have hk := hj.2
  unfold keeps at hk
  have hj1 : j - 1 < zs.length := by omega
  have hne : zs[j - 1] ≠ zs[j] := by
    intro e
    simp [hj', hj1] at hk
    rcases hk with hk | hk
    · omega
    · exact hk e.symm
  have h1 : zs[i] ≤ zs[j - 1] := by
    by_cases he : i = j - 1
    · subst he; omega
    · exact List.pairwise_iff_getElem.1 h i (j - 1) hi' hj1 (by omega)
  have h2 : zs[j - 1] ≤ zs[j] := List.pairwise_iff_getElem.1 h (j - 1) j hj1 hj' (by omega)
  simp [hi', hj']
  omega

/-- The known ones, rising, each once. -/
def rotaL (zs : List Int) : List Int := compact (zs.mergeSort fun x y => decide (x ≤ y))

theorem msort_sorted (zs : List Int) : (zs.mergeSort fun x y => decide (x ≤ y)).Pairwise (· ≤ ·) := by
  have := List.pairwise_mergeSort (le := fun x y : Int => decide (x ≤ y)) (fun a b c => by simp; omega) (fun a b => by simp; omega) zs
  simpa using this

theorem rotaL_sorted (zs : List Int) : (rotaL zs).Pairwise (· < ·) := compact_sorted (msort_sorted zs)
theorem mem_rotaL {zs : List Int} {x : Int} : x ∈ rotaL zs ↔ x ∈ zs := by unfold rotaL; rw [mem_compact, List.mem_mergeSort]
theorem rotaL_ne {zs : List Int} (h : zs ≠ []) : rotaL zs ≠ [] := by
  cases zs with
  | nil => exact absurd rfl h
  | cons a l => exact List.ne_nil_of_mem (mem_rotaL.2 (by simp : a ∈ a :: l))
theorem compact_le (zs : List Int) : (compact zs).length ≤ zs.length := by
  unfold compact compactUpTo
  rw [List.length_map]
  refine Nat.le_trans (List.length_filter_le _ _) ?_
  simp

end Go.Qd
