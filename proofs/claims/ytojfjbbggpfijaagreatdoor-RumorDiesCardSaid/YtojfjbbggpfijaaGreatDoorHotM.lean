/- What a mill tells, in plain Lean: at most a chunk, fresh entries that rumors name. -/
import Derived.Test.YtojfjbbggpfijaaGreatDoorRumsB
namespace Go.Proofs.YtojfjbbggpfijaaGreatDoor
open Go.RowKit Go.Qd RepV
theorem toldL_len {r : RepV} {ch : Int} {ks : List ByteArray} {l : List TkV} (hc : 0 ≤ ch) : ((toldL r ch ks l).length : Int) ≤ ch := by
  unfold toldL
  have : ∀ (l : List TkV) (o : List EnV), (o.length : Int) ≤ ch → ((l.foldl (fun o t => if (decide ((o.length : Int) < ch) && (freshB r t && !hasS ks t.m.key)) = true then o ++ [tget r.tab t.m.key] else o) o).length : Int) ≤ ch := by
    intro l
    induction l with
    | nil => intro o h; exact h
    | cons t l ih =>
      intro o h
      rw [List.foldl_cons]
      apply ih
      split
      · rename_i g
        have g1 := (Bool.and_eq_true _ _ ▸ g).1
        have := of_decide_eq_true g1
        rw [List.length_append]; simp only [List.length_singleton]; omega
      · exact h
  exact this l [] (by simpa using hc)
/-- What is told is entries of the replica that rumors name, fresh, and none of some keys. -/
theorem toldL_mem {r : RepV} {ch : Int} {ks : List ByteArray} {l : List TkV} {e : EnV} (h : e ∈ toldL r ch ks l) : ∃ t ∈ l, freshB r t = true ∧ hasS ks t.m.key = false ∧ e = tget r.tab t.m.key := by
  unfold toldL at h
  have : ∀ (l : List TkV) (o : List EnV), e ∈ l.foldl (fun o t => if (decide ((o.length : Int) < ch) && (freshB r t && !hasS ks t.m.key)) = true then o ++ [tget r.tab t.m.key] else o) o → e ∈ o ∨ ∃ t ∈ l, freshB r t = true ∧ hasS ks t.m.key = false ∧ e = tget r.tab t.m.key := by
    intro l
    induction l with
    | nil => intro o h; exact .inl h
    | cons t l ih =>
      intro o h
      rw [List.foldl_cons] at h
      rcases ih _ h with g | ⟨t', h1, h2⟩
      · split at g
        · rename_i q
          simp only [Bool.and_eq_true, Bool.not_eq_true'] at q
          rcases List.mem_append.1 g with g | g
          · exact .inl g
          · exact .inr ⟨t, List.mem_cons_self, q.2.1, q.2.2, by simpa using g⟩
        · exact .inl g
      · exact .inr ⟨t', List.mem_cons_of_mem _ h1, h2⟩
  rcases this l [] h with g | g
  · cases g
  · exact g
end Go.Proofs.YtojfjbbggpfijaaGreatDoor
