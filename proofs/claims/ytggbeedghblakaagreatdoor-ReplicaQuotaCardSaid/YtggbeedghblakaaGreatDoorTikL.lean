/- A tick in plain Lean: pair by pair. -/
import Derived.Test.YtggbeedghblakaaGreatDoorRepT
namespace Go.Proofs.YtggbeedghblakaaGreatDoor
open Go.RowKit Go.Qd RepV

theorem gtick_at {t2 : Int} {gr : List KE} (h : TSrt gr) (hk : ∀ p ∈ gr, p.1 = p.2.key) {i : Nat} (hi : i < gr.length) :
    TSrt ((gr.take i).foldl (gtick1 t2) gr) ∧ thas ((gr.take i).foldl (gtick1 t2) gr) gr[i].2.key = true ∧ ((gr.take i).foldl (gtick1 t2) gr).length ≤ gr.length ∧
    (gr.take (i + 1)).foldl (gtick1 t2) gr = gtick1 t2 ((gr.take i).foldl (gtick1 t2) gr) gr[i] := by
  obtain ⟨h1, h2, h3⟩ := gtick_state (t2 := t2) h hk i (by omega)
  refine ⟨h1, ?_, ?_, ?_⟩
  · rw [h3]
    refine hasK_iff.2 ⟨gr[i], ?_, hk _ (List.getElem_mem hi)⟩
    rw [List.mem_append, List.mem_drop_iff_getElem]
    exact .inr ⟨0, by omega, by simp⟩
  · rw [h3, List.length_append, List.length_drop]
    have := List.length_filterMap_le (gleft1 t2) (gr.take i)
    rw [List.length_take] at this
    omega
  · rw [List.take_succ_eq_append_getElem hi, List.foldl_append]; rfl

theorem tick_at {r : RepV} (h : RepOK r) {i : Nat} (hi : i < r.tab.length) :
    RepOK ((r.tab.take i).foldl RepV.tick1 r) ∧ thas ((r.tab.take i).foldl RepV.tick1 r).tab r.tab[i].2.key = true ∧ ((r.tab.take i).foldl RepV.tick1 r).t1 = r.t1 ∧
    (r.tab.take (i + 1)).foldl RepV.tick1 r = ((r.tab.take i).foldl RepV.tick1 r).tick1 r.tab[i] := by
  obtain ⟨h1, h2, h3⟩ := tick_state h i (by omega)
  refine ⟨h1, ?_, ?_, ?_⟩
  · rw [h3]
    refine hasK_iff.2 ⟨r.tab[i], ?_, h.key _ (List.getElem_mem hi)⟩
    rw [List.mem_append, List.mem_drop_iff_getElem]
    exact .inr ⟨0, by omega, by simp⟩
  · unfold SameT at h2; rw [h2]
  · rw [List.take_succ_eq_append_getElem hi, List.foldl_append]; rfl

/-- The keys that leave, so far. -/
def tickGs (t1 : Int) (l : List KE) : List ByteArray := (l.filter (goes1 t1)).map fun p => p.2.key
theorem tickGs_snoc (t1 : Int) {l : List KE} {i : Nat} (hi : i < l.length) : tickGs t1 (l.take (i + 1)) = tickGs t1 (l.take i) ++ (if goes1 t1 l[i] = true then [l[i].2.key] else []) := by
  unfold tickGs
  rw [List.take_succ_eq_append_getElem hi, List.filter_append, List.map_append]
  congr 1
  split
  · rename_i h; rw [List.filter_cons_of_pos h]; rfl
  · rename_i h; rw [List.filter_cons_of_neg h]; rfl
theorem checkE_ages {e : EnV} (h : checkE e = 0) : 0 ≤ e.age ∧ e.age ≤ 2147483647 := by
  cases hd : e.dead with
  | false =>
    have := (checkE_ok h).2.2.2.2.2.2.1 hd
    unfold plainB at this
    simp only [Bool.and_eq_true, beq_iff_eq] at this
    rw [this.2.2.2]; decide
  | true =>
    have := ((checkE_ok h).2.2.2.2.2.2.2 hd).1
    unfold keptB at this
    simp only [Bool.and_eq_true, decide_eq_true_eq] at this
    exact this.2.2
end Go.Proofs.YtggbeedghblakaaGreatDoor
