/- Sorted lists of ints as sets: what is dropped, what is put in. -/
import Derived.Test.YtojfjbbggpfijaaGreatDoorLib
namespace Go.Qd

def dropL (l : List Int) (p : Int) : List Int := l.filter (fun x => x != p)
/-- Is it among them? -/
def memB (l : List Int) (p : Int) : Bool := l.contains p
theorem memB_yes {l : List Int} {p : Int} (h : p ∈ l) : memB l p = true := by simpa [memB] using h
theorem memB_no {l : List Int} {p : Int} (h : p ∉ l) : memB l p = false := by simpa [memB] using h
theorem memB_iff {l : List Int} {p : Int} : memB l p = true ↔ p ∈ l := by simp [memB]

def insL (l : List Int) (p : Int) : List Int := l.filter (fun x => decide (x < p)) ++ p :: l.filter (fun x => !decide (x < p))

theorem take_lt {l : List Int} (h : l.Pairwise (· < ·)) (p : Int) : l.take (l.countP (· < p)) = l.filter (fun x => decide (x < p)) ∧ l.drop (l.countP (· < p)) = l.filter (fun x => !decide (x < p)) := by
  induction l with
  | nil => simp
  | cons a l ih =>
    obtain ⟨ha, hl⟩ := List.pairwise_cons.1 h
    obtain ⟨i1, i2⟩ := ih hl
    by_cases hp : a < p
    · simp [hp, i1, i2]
    · have hc : l.countP (· < p) = 0 := List.countP_eq_zero.2 fun x hx => by have := ha x hx; simp; omega
      have h0 : l.filter (fun x => decide (x < p)) = [] := List.filter_eq_nil_iff.2 fun x hx => by have := ha x hx; simp; omega
      have h1 : l.filter (fun x => !decide (x < p)) = l := List.filter_eq_self.2 fun x hx => by have := ha x hx; simp; omega
      have h1'' : l.filter (fun x => !decide (x < p)) = l := h1
      simp [hp, hc, h0]
      exact h1''.symm

theorem insL_eq {l : List Int} (h : l.Pairwise (· < ·)) (p : Int) : l.take (l.countP (· < p)) ++ [p] ++ l.drop (l.countP (· < p)) = insL l p := by
  obtain ⟨h1, h2⟩ := take_lt h p
  rw [h1, h2]; simp [insL]

theorem dropL_eq {l : List Int} (h : l.Pairwise (· < ·)) {p : Int} (hp : p ∈ l) : l.take (l.countP (· < p)) ++ l.drop (l.countP (· < p) + 1) = dropL l p ∧ l.countP (· < p) < l.length := by
  induction l with
  | nil => simp at hp
  | cons a l ih =>
    obtain ⟨ha, hl⟩ := List.pairwise_cons.1 h
    by_cases hap : a < p
    · have hp' : p ∈ l := by
        rcases List.mem_cons.1 hp with rfl | h'
        · omega
        · exact h'
      obtain ⟨i1, i2⟩ := ih hl hp'
      have hne : (a != p) = true := by simp; omega
      constructor
      · simp only [List.countP_cons, hap, decide_true, if_true, List.take_succ_cons, List.drop_succ_cons, List.cons_append, i1, dropL, List.filter_cons, hne]
      · simp [hap]; exact i2
    · have hpa : p = a := by
        rcases List.mem_cons.1 hp with rfl | h'
        · rfl
        · have := ha p h'; omega
      subst hpa
      have hc : l.countP (· < p) = 0 := List.countP_eq_zero.2 fun x hx => by have := ha x hx; simp; omega
      have h1 : l.filter (fun x => x != p) = l := List.filter_eq_self.2 fun x hx => by have := ha x hx; simp; omega
      have hc2 : (p :: l).countP (· < p) = 0 := by simp [hc]
      refine ⟨?_, by rw [hc2]; simp⟩
      rw [hc2]
      simp [dropL, h1]

theorem mem_dropL {l : List Int} {p x : Int} : x ∈ dropL l p ↔ x ∈ l ∧ x ≠ p := by simp [dropL]
theorem mem_insL {l : List Int} {p x : Int} : x ∈ insL l p ↔ x ∈ l ∨ x = p := by
  unfold insL
  simp only [List.mem_append, List.mem_filter, List.mem_cons, decide_eq_true_eq, Bool.not_eq_true', decide_eq_false_iff_not]
  constructor
  · rintro (⟨h, _⟩ | h | ⟨h, _⟩)
    · exact .inl h
    · exact .inr h
    · exact .inl h
  · rintro (h | h)
    · by_cases hx : x < p
      · exact .inl ⟨h, hx⟩
      · exact .inr (.inr ⟨h, hx⟩)
    · exact .inr (.inl h)

theorem dropL_sorted {l : List Int} (h : l.Pairwise (· < ·)) (p : Int) : (dropL l p).Pairwise (· < ·) := h.filter _
theorem insL_sorted {l : List Int} (h : l.Pairwise (· < ·)) {p : Int} (hp : p ∉ l) : (insL l p).Pairwise (· < ·) := by
  unfold insL
  rw [List.pairwise_append]
  refine ⟨h.filter _, List.pairwise_cons.2 ⟨fun x hx => ?_, h.filter _⟩, fun a ha b hb => ?_⟩
  · simp only [List.mem_filter, Bool.not_eq_true', decide_eq_false_iff_not] at hx
    rcases Int.lt_or_eq_of_le (Int.not_lt.1 hx.2) with g | g
    · exact g
    · subst g; exact absurd hx.1 hp
  · simp only [List.mem_filter, decide_eq_true_eq] at ha
    rcases List.mem_cons.1 hb with rfl | hb
    · exact ha.2
    · simp only [List.mem_filter, Bool.not_eq_true', decide_eq_false_iff_not] at hb; omega
theorem insL_len (l : List Int) (p : Int) : (insL l p).length = l.length + 1 := by
  unfold insL
  have : (l.filter fun x => decide (x < p)).length + (l.filter fun x => !decide (x < p)).length = l.length := by
    induction l with
    | nil => rfl
    | cons a l ih => simp only [List.filter_cons, Bool.not_eq_true']; by_cases h : a < p <;> simp [h] at ih ⊢ <;> omega
  rw [List.length_append, List.length_cons]; omega
theorem dropL_len {l : List Int} (h : l.Pairwise (· < ·)) {p : Int} (hp : p ∈ l) : (dropL l p).length + 1 = l.length := by
  obtain ⟨h1, h2⟩ := dropL_eq h hp
  have := congrArg List.length h1
  rw [List.length_append, List.length_take, List.length_drop] at this
  omega
theorem dropL_out {l : List Int} {p : Int} (hp : p ∉ l) : dropL l p = l := List.filter_eq_self.2 fun x hx => by simp; rintro rfl; exact hp hx

/-- Sorted lists with the same elements are the same. -/
theorem sorted_ext {a b : List Int} (ha : a.Pairwise (· < ·)) (hb : b.Pairwise (· < ·)) (h : ∀ x, x ∈ a ↔ x ∈ b) : a = b := by
  induction a generalizing b with
  | nil =>
    cases b with
    | nil => rfl
    | cons y b => have := (h y).2 (by simp); simp at this
  | cons x a ih =>
    cases b with
    | nil => have := (h x).1 (by simp); simp at this
    | cons y b =>
      obtain ⟨a1, a2⟩ := List.pairwise_cons.1 ha
      obtain ⟨b1, b2⟩ := List.pairwise_cons.1 hb
      have hxy : x = y := by
        have h1 := (h x).1 (by simp)
        have h2 := (h y).2 (by simp)
        rcases List.mem_cons.1 h1 with g | g
        · exact g
        · rcases List.mem_cons.1 h2 with g' | g'
          · exact g'.symm
          · have := b1 x g; have := a1 y g'; omega
      subst hxy
      congr 1
      refine ih a2 b2 fun z => ?_
      constructor
      · intro hz
        rcases List.mem_cons.1 ((h z).1 (by simp [hz])) with g | g
        · have := a1 z hz; omega
        · exact g
      · intro hz
        rcases List.mem_cons.1 ((h z).2 (by simp [hz])) with g | g
        · have := b1 z hz; omega
        · exact g

end Go.Qd
