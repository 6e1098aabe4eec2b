/- views: what stays true of views. -/
import Derived.Test.YtbpdchaeakihkaaGreatViewsD
namespace Go.Proofs.YtbpdchaeakihkaaGreat
open Go.RowKit Go.Qd

theorem VOK.start {self am pm : Int} (h : nodeB self = true ∧ (1 ≤ am ∧ am < 12) ∧ (1 ≤ pm ∧ pm < 12)) : VOK ⟨self, [], am, [], pm⟩ :=
  ⟨List.Pairwise.nil, List.Pairwise.nil, ⟨h.2.1.1, by have := h.2.1.2; show am ≤ 11; omega⟩, ⟨h.2.2.1, by have := h.2.2.2; show pm ≤ 11; omega⟩, by show (0 : Int) ≤ am; omega, by show (0 : Int) ≤ pm; omega, fun _ h => (by cases h), fun _ h => (by cases h), fun _ h => (by cases h)⟩

theorem raiseOk_iff {V : VV} {q : Int} : raiseOk V q = true ↔ nodeB q = true ∧ q ≠ V.self ∧ q ∉ V.a := by
  unfold raiseOk
  simp only [Bool.and_eq_true, decide_eq_true_eq, Bool.not_eq_true']
  constructor
  · rintro ⟨⟨h1, h2⟩, h3⟩; exact ⟨h1, h2, memB_false h3⟩
  · rintro ⟨h1, h2, h3⟩; exact ⟨⟨h1, h2⟩, memB_no h3⟩

theorem learnOk_iff {V : VV} {q : Int} : learnOk V q = true ↔ nodeB q = true ∧ q ≠ V.self ∧ q ∉ V.a ∧ q ∉ V.p := by
  unfold learnOk
  simp only [Bool.and_eq_true, decide_eq_true_eq, Bool.not_eq_true']
  constructor
  · rintro ⟨⟨⟨h1, h2⟩, h3⟩, h4⟩; exact ⟨h1, h2, memB_false h3, memB_false h4⟩
  · rintro ⟨h1, h2, h3, h4⟩; exact ⟨⟨⟨h1, h2⟩, memB_no h3⟩, memB_no h4⟩

theorem full_ne {l : List Int} {m : Int} (hm : 1 ≤ m) (h : m ≤ l.length) : l ≠ [] := fun e => by subst e; simp at h; omega

theorem raiseG_full {V : VV} (hV : VOK V) {D : List Int} (h : V.am ≤ V.a.length) : raiseG V D = pickV D V.a ∧ raiseG V D ∈ V.a ∧ 0 ≤ raiseG V D := by
  have e : raiseG V D = pickV D V.a := by unfold raiseG addG; rw [if_pos h]
  have hm := pickV_mem (D := D) (full_ne hV.am.1 h)
  rw [e]
  exact ⟨rfl, hm, (nodeB_iff.1 (hV.na _ hm).1).1⟩

theorem raiseG_room {V : VV} {D : List Int} (h : ¬ V.am ≤ V.a.length) : raiseG V D = -1 := by unfold raiseG addG; rw [if_neg h]

theorem raiseG_iff {V : VV} (hV : VOK V) {D : List Int} : 0 ≤ raiseG V D ↔ V.am ≤ V.a.length := by
  by_cases h : V.am ≤ V.a.length
  · exact ⟨fun _ => h, fun _ => (raiseG_full hV h).2.2⟩
  · exact ⟨fun g => by rw [raiseG_room h] at g; omega, fun g => absurd g h⟩

theorem VOK.raise {V : VV} (hV : VOK V) (D : List Int) (q : Int) : VOK (raiseV V D q) := by
  unfold raiseV
  by_cases hr : raiseOk V q = true
  · rw [if_pos hr]
    obtain ⟨h1, h2, h3⟩ := raiseOk_iff.1 hr
    have hdl := dropL_le V.p q
    by_cases hf : V.am ≤ V.a.length
    · obtain ⟨e, hm, h0⟩ := raiseG_full hV (D := D) hf
      rw [if_pos h0]
      have hgp : raiseG V D ∉ dropL V.p q := fun h => hV.dis _ hm (mem_dropL.1 h).1
      refine ⟨addL_sorted hV.sa h3, addL_sorted (dropL_sorted hV.sp q) hgp, hV.am, hV.pm, (addL_len hV.sa hV.am.1 hV.la).1, (addL_len (dropL_sorted hV.sp q) hV.pm.1 (by have := hV.lp; show ((dropL V.p q).length : Int) ≤ V.pm; omega)).1, ?_, ?_, ?_⟩
      · intro x hx
        rcases addL_mem.1 hx with rfl | ⟨g, _⟩
        · exact ⟨h1, h2⟩
        · exact hV.na x g
      · intro x hx
        rcases addL_mem.1 hx with g | ⟨g, _⟩
        · rw [g]; exact hV.na _ hm
        · exact hV.np x (mem_dropL.1 g).1
      · intro x hx hp
        rcases addL_mem.1 hx with g | ⟨g, g'⟩
        · rcases addL_mem.1 hp with k | ⟨k, _⟩
          · rw [g] at k; rw [k] at h3; exact h3 hm
          · exact (mem_dropL.1 k).2 g
        · rcases addL_mem.1 hp with k | ⟨k, _⟩
          · exact g' hf (k.trans e)
          · exact hV.dis x g (mem_dropL.1 k).1
    · have e := raiseG_room (D := D) hf
      rw [e, if_neg (by omega)]
      refine ⟨addL_sorted hV.sa h3, dropL_sorted hV.sp q, hV.am, hV.pm, (addL_len hV.sa hV.am.1 hV.la).1, by have := hV.lp; show ((dropL V.p q).length : Int) ≤ V.pm; omega, ?_, fun x hx => hV.np x (mem_dropL.1 hx).1, ?_⟩
      · intro x hx
        rcases addL_mem.1 hx with rfl | ⟨g, _⟩
        · exact ⟨h1, h2⟩
        · exact hV.na x g
      · intro x hx hp
        rcases addL_mem.1 hx with g | ⟨g, _⟩
        · exact (mem_dropL.1 hp).2 g
        · exact hV.dis x g (mem_dropL.1 hp).1
  · rw [if_neg hr]; exact hV

theorem VOK.lower {V : VV} (hV : VOK V) (D : List Int) (q : Int) : VOK (lowerV V D q) := by
  unfold lowerV
  by_cases hr : memB V.a q = true
  · rw [if_pos hr]
    have hq := memB_iff.1 hr
    have hdl := dropL_le V.a q
    refine ⟨dropL_sorted hV.sa q, addL_sorted hV.sp (hV.dis q hq), hV.am, hV.pm, by have := hV.la; show ((dropL V.a q).length : Int) ≤ V.am; omega, (addL_len hV.sp hV.pm.1 hV.lp).1, fun x hx => hV.na x (mem_dropL.1 hx).1, ?_, ?_⟩
    · intro x hx
      rcases addL_mem.1 hx with g | ⟨g, _⟩
      · rw [g]; exact hV.na _ hq
      · exact hV.np x g
    · intro x hx hp
      rcases addL_mem.1 hp with k | ⟨k, _⟩
      · exact (mem_dropL.1 hx).2 k
      · exact hV.dis x (mem_dropL.1 hx).1 k
  · rw [if_neg hr]; exact hV

theorem VOK.learn {V : VV} (hV : VOK V) (D : List Int) (q : Int) : VOK (learnV V D q) := by
  unfold learnV
  by_cases hr : learnOk V q = true
  · rw [if_pos hr]
    obtain ⟨h1, h2, h3, h4⟩ := learnOk_iff.1 hr
    refine ⟨hV.sa, addL_sorted hV.sp h4, hV.am, hV.pm, hV.la, (addL_len hV.sp hV.pm.1 hV.lp).1, hV.na, ?_, ?_⟩
    · intro x hx
      rcases addL_mem.1 hx with g | ⟨g, _⟩
      · rw [g]; exact ⟨h1, h2⟩
      · exact hV.np x g
    · intro x hx hp
      rcases addL_mem.1 hp with k | ⟨k, _⟩
      · rw [k] at hx; exact h3 hx
      · exact hV.dis x hx k
  · rw [if_neg hr]; exact hV

theorem memB_eq {l : List Int} {p : Int} {c : Bool} (h : p ∈ l ↔ c = true) : memB l p = c := by
  cases c with
  | true => exact memB_yes (h.2 rfl)
  | false => exact memB_no fun g => by cases h.1 g

/-- What ViewsMove asks of a node that was raised. -/
theorem raise_told {V : VV} (hV : VOK V) {D : List Int} {q : Int} (hr : raiseOk V q = true) :
    memB (raiseV V D q).a q = true ∧ memB V.a q = false ∧ (0 ≤ raiseG V D → memB (raiseV V D q).a (raiseG V D) = false ∧ memB (raiseV V D q).p (raiseG V D) = true) := by
  obtain ⟨h1, h2, h3⟩ := raiseOk_iff.1 hr
  refine ⟨?_, memB_no h3, fun h0 => ?_⟩
  · unfold raiseV; rw [if_pos hr]; exact memB_yes (addL_mem.2 (.inl rfl))
  · have hf := (raiseG_iff hV).1 h0
    obtain ⟨e, hm, _⟩ := raiseG_full hV (D := D) hf
    unfold raiseV
    rw [if_pos hr]
    refine ⟨memB_no fun h => ?_, ?_⟩
    · rcases addL_mem.1 h with g | ⟨_, g⟩
      · rw [g] at hm; exact h3 hm
      · exact g hf e
    · show memB (if 0 ≤ raiseG V D then _ else _) _ = true
      rw [if_pos h0]
      exact memB_yes (addL_mem.2 (.inl rfl))

theorem lower_told {V : VV} (hV : VOK V) {D : List Int} {q : Int} : memB (lowerV V D q).a q = false ∧ (memB V.a q = true → memB (lowerV V D q).p q = true ∧ (lowerV V D q).a.length + 1 = V.a.length) := by
  unfold lowerV
  by_cases hr : memB V.a q = true
  · rw [if_pos hr]
    exact ⟨memB_no fun h => (mem_dropL.1 h).2 rfl, fun _ => ⟨memB_yes (addL_mem.2 (.inl rfl)), dropL_len hV.sa (memB_iff.1 hr)⟩⟩
  · rw [if_neg hr]; exact ⟨by simpa using hr, fun h => absurd h hr⟩

theorem learn_told {V : VV} {D : List Int} {q : Int} : (learnV V D q).a = V.a ∧ (learnOk V q = true → memB (learnV V D q).p q = true) := by
  unfold learnV
  by_cases hr : learnOk V q = true
  · rw [if_pos hr]; exact ⟨rfl, fun _ => memB_yes (addL_mem.2 (.inl rfl))⟩
  · rw [if_neg hr]; exact ⟨rfl, fun h => absurd h hr⟩

theorem addD_le (D l : List Int) (m : Int) : (addD D l m).length ≤ D.length := by
  have h : ∀ (l : List Int) (n : Int), (drawL l n).length ≤ l.length := fun l n => by
    cases l with
    | nil => simp [drawL]
    | cons x r => simp only [drawL]; split <;> simp
  unfold addD; split
  · exact h _ _
  · exact Nat.le_refl _

end Go.Proofs.YtbpdchaeakihkaaGreat
