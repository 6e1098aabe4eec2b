/- From the kit's words (Below, ownsRow) to the logic of ownership. -/
import Derived.Test.YtnibgchgcggfbacSlice
namespace Go.Qd
open Go.RowKit

section
variable {W w w' : World} {R : List HP}

theorem St.below' (s : St W w R) (hb : Below w.heap.size w w') : Below W.heap.size W w' :=
  s.1.trans (hb.mono s.1.size)

theorem St.ofBelow (s : St W w R) (hb : Below w.heap.size w w') : St W w' R :=
  s.grow0 (s.below' hb) fun b hlt => hb.block b hlt

theorem St.ofRow (s : St W w R) (hb : Below w.heap.size w w') {e : TypeId} {sz : Nat} {v : Value} {k : Nat} {xs : List Value} (hr : w'.ownsRow w.heap.size e sz v k xs) (hl : xs.length = k * sz) (one : ∀ u ∈ xs, u.oneCell' = true) :
    ∃ ao c, v = .slice ao k c ∧ St W w' (OwnS sz ao k c xs :: R) := by
  rcases hr.2 with ⟨rfl, hz⟩ | ⟨g, cap, cur, rfl, hg, hh, hk, hm, hsize, htake⟩
  · subst hz
    have : xs = [] := List.eq_nil_of_length_eq_zero (by simpa using hl)
    subst this
    exact ⟨none, 0, rfl, OwnS.none0 (s.ofBelow hb)⟩
  · refine ⟨_, _, rfl, ?_⟩
    have s1 : St W w' (row g 0 cur.toList :: R) := by
      refine s.grow (B := row g 0 cur.toList) (s.below' hb) (fun b hlt => hb.block b hlt) (h1' := rowH g 0 .cell cur.toList) rfl (fun b o r hr => ?_) (fun b o hn => ?_)
      · obtain ⟨rfl, ho, v, hv, rfl⟩ := rowH_some hr
        have := s.1.size
        refine ⟨⟨?_, ?_⟩, fun _ => by omega⟩
        · simp [World.cell?, hh]; simpa using hv
        · simp [World.frozen?, hh]
      · obtain ⟨r, hr⟩ := Option.ne_none_iff_exists'.1 hn
        obtain ⟨rfl, _⟩ := rowH_some hr
        exact hg
    refine OwnS.close (sp := cur.toList.drop (k * sz)) ⟨hl, ?_, hk, hm, by simp, fun _ => ⟨_, _, rfl⟩, one⟩ ?_
    · rw [List.length_drop, Array.length_toList, hsize, ← Nat.sub_mul]
    · show St W w' (row g 0 _ :: R)
      rw [← htake, List.take_append_drop]
      exact s1

end

end Go.Qd
