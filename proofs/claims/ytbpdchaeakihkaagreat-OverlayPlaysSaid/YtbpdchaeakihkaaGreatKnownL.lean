/- views: all that are known. -/
import Derived.Test.YtbpdchaeakihkaaGreatViewsK
namespace Go.Proofs.YtbpdchaeakihkaaGreat
open Go.RowKit Go.Qd

/-- All that are known. -/
def knownL (V : VV) : List Int := sortL (V.a ++ V.p)
theorem mem_knownL {V : VV} {x : Int} : x ∈ knownL V ↔ (x ∈ V.a ∨ x ∈ V.p) := by unfold knownL sortL; rw [List.mem_mergeSort, List.mem_append]
theorem knownL_len (V : VV) : (knownL V).length = V.a.length + V.p.length := by unfold knownL sortL; rw [List.length_mergeSort, List.length_append]
theorem msort_le (zs : List Int) : (sortL zs).Pairwise (· ≤ ·) := by
  have := List.pairwise_mergeSort (le := fun x y : Int => decide (x ≤ y)) (fun a b c => by simp; omega) (fun a b => by simp; omega) zs
  simpa [sortL] using this
theorem knownL_sorted {V : VV} (hV : VOK V) : (knownL V).Pairwise (· < ·) := by
  have h1 := msort_le (V.a ++ V.p)
  have hnd : (V.a ++ V.p).Nodup := by
    rw [List.nodup_append]
    exact ⟨hV.sa.imp (fun h => by omega), hV.sp.imp (fun h => by omega), fun a ha b hb hab => hV.dis a ha (by rw [hab]; exact hb)⟩
  have h2 : (sortL (V.a ++ V.p)).Nodup := (List.mergeSort_perm (V.a ++ V.p) _).nodup_iff.2 hnd
  exact (h1.and h2).imp (fun h => by omega)

theorem knownL_told {V : VV} (hV : VOK V) {x : Int} (hx : x ∈ knownL V) : nodeB x = true ∧ x ≠ V.self ∧ (memB V.a x = true ∧ memB V.p x = false ∨ memB V.a x = false ∧ memB V.p x = true) := by
  rcases mem_knownL.1 hx with h | h
  · exact ⟨(hV.na x h).1, (hV.na x h).2, .inl ⟨memB_yes h, memB_no (hV.dis x h)⟩⟩
  · exact ⟨(hV.np x h).1, (hV.np x h).2, .inr ⟨memB_no (fun g => hV.dis x g h), memB_yes h⟩⟩

def anyEq (l : List Int) (n : Int) : Bool := l.any (fun x => x == n)
theorem anyEq_snoc {l : List Int} {j : Nat} (h : j < l.length) (n : Int) : anyEq (l.take (j + 1)) n = (anyEq (l.take j) n || (l[j] == n)) := by
  unfold anyEq; rw [List.take_succ_eq_append_getElem h, List.any_append]; simp
theorem anyEq_all {l : List Int} {n : Int} (h : n ∈ l) : anyEq l n = true := by unfold anyEq; rw [List.any_eq_true]; exact ⟨n, h, by simp⟩

theorem knownL_known {W w : World} {R : List HP} {post : Ending → World → Prop} {b : Nat} {V : VV} (st : St W w (ViewsA b V :: R)) (hV : VOK V)
    (K : ∀ ao c w', St W w' (OwnS 1 ao (knownL V).length c (ivs (knownL V)) :: ViewsA b V :: R) → post (.returned (.slice ao (knownL V).length c)) w') : Calls Tryz.prog 30 #[.pointer (some ⟨b, 0, none⟩)] w post := by
  refine known_c st (by have := hV.la; have := hV.am; omega) (by have := hV.lp; have := hV.pm; omega) ?_
  rw [← knownL_len]
  exact K
end Go.Proofs.YtbpdchaeakihkaaGreat
