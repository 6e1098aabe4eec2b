/- What goes down by Below, in plain Lean: the marks of what there is, the latest first. -/
import Derived.Test.YtggbeedghblakaaGreatDoorLogs
namespace Go.Proofs.YtggbeedghblakaaGreatDoor
open Go.RowKit Go.Qd RepV

def MkV.none : MkV := ⟨0, 0, ByteArray.empty⟩
def MkV.isNone (m : MkV) : Bool := decide (m.c = 0) && (decide (m.s = 0) && nilB m.key)
theorem nilB_iff {b : ByteArray} : nilB b = true ↔ b = ByteArray.empty := by
  unfold nilB
  constructor
  · intro h
    refine kb_inj ?_
    rw [List.isEmpty_iff, Lib.toList_data] at h
    rw [h]; rfl
  · rintro rfl; rw [Lib.toList_data]; rfl
theorem MkV.isNone_iff {m : MkV} : m.isNone = true ↔ m = MkV.none := by
  unfold MkV.isNone MkV.none
  simp only [Bool.and_eq_true, decide_eq_true_eq, nilB_iff]
  constructor
  · rintro ⟨h1, h2, h3⟩; cases m; simp_all
  · rintro rfl; exact ⟨rfl, rfl, rfl⟩

/-- The latest marks that are earlier than one. -/
def belowR (l : List MkV) (m : MkV) : List MkV := if m.isNone = true then l else l.filter fun x => mLt m x
def belowL (l : List MkV) (m : MkV) (n : Nat) : List MkV := (belowR l m).take n

/-- How many marks have gone down. -/
def AtM (l : List MkV) (at_ : MkV) (c : Nat) : Prop := c ≤ l.length ∧ ((c = 0 ∧ at_ = MkV.none) ∨ (0 < c ∧ l[c - 1]? = some at_))

theorem filter_after {l : List MkV} (hs : SrtK mLt id l) {i : Nat} {m : MkV} (h : l[i]? = some m) : l.filter (fun x => mLt m x) = l.drop (i + 1) := by
  obtain ⟨hi, rfl⟩ := List.getElem?_eq_some_iff.1 h
  have hd := List.drop_eq_getElem_cons hi
  obtain ⟨A, hA⟩ : ∃ A, l.take i = A := ⟨_, rfl⟩
  obtain ⟨B, hB⟩ : ∃ B, l.drop (i + 1) = B := ⟨_, rfl⟩
  have e : l = A ++ l[i] :: B := by rw [← hA, ← hB, ← hd, List.take_append_drop]
  obtain ⟨x, hx⟩ : ∃ x, l[i] = x := ⟨_, rfl⟩
  rw [hB]
  rw [hx] at e ⊢
  have hs2 : SrtK mLt id (A ++ x :: B) := by rw [← e]; exact hs
  obtain ⟨h1, h2⟩ := srt_mid hs2
  have h3 : ∀ b ∈ B, mLt x b = true := h2
  rw [e, List.filter_append, List.filter_cons_of_neg (by simp [mLt_ord.irr]), List.filter_eq_nil_iff.2 (fun a ha => by have h4 : mLt a x = true := h1 a ha; simp [mLt_ord.asym h4]), List.filter_eq_self.2 h3, List.nil_append]

theorem AtM.rest {l : List MkV} {m : MkV} {c : Nat} (hs : SrtK mLt id l) (hn : ∀ x ∈ l, x.isNone = false) (h : AtM l m c) : belowR l m = l.drop c := by
  unfold belowR
  obtain ⟨_, ⟨rfl, rfl⟩ | ⟨h1, h2⟩⟩ := h
  · rw [if_pos (MkV.isNone_iff.2 rfl), List.drop_zero]
  · have hm := List.mem_of_getElem? h2
    rw [if_neg (by rw [hn m hm]; decide), filter_after hs h2]
    congr 1; omega

theorem AtM.start (l : List MkV) : AtM l MkV.none 0 := ⟨Nat.zero_le _, .inl ⟨rfl, rfl⟩⟩
theorem AtM.step {l : List MkV} {m x : MkV} {c : Nat} (_h : AtM l m c) (hx : l[c]? = some x) : AtM l x (c + 1) := by
  obtain ⟨hi, _⟩ := List.getElem?_eq_some_iff.1 hx
  exact ⟨by omega, .inr ⟨by omega, by rw [Nat.add_sub_cancel]; exact hx⟩⟩
/-- What comes next is earlier than where one is. -/
theorem AtM.later {l : List MkV} {m x : MkV} {c : Nat} (hs : SrtK mLt id l) (h : AtM l m c) (hx : l[c]? = some x) : m.isNone = true ∨ mLt m x = true := by
  obtain ⟨_, ⟨rfl, rfl⟩ | ⟨h1, h2⟩⟩ := h
  · exact .inl (MkV.isNone_iff.2 rfl)
  · right
    obtain ⟨i1, e1⟩ := List.getElem?_eq_some_iff.1 h2
    obtain ⟨i2, e2⟩ := List.getElem?_eq_some_iff.1 hx
    have := List.pairwise_iff_getElem.1 hs (c - 1) c i1 i2 (by omega)
    rw [e1, e2] at this
    exact this

/-- The marks are those of the table. -/
theorem Core.marks {r : RepV} (h : Core r) : ∀ m ∈ r.ix, thas r.tab m.key = true ∧ (tget r.tab m.key).mark = m ∧ m.isNone = false := fun m hm => by
  have h1 : (ixGet r.ix m.key).isSome = true := by
    cases e : ixGet r.ix m.key with
    | none => exact absurd rfl (ixGet_none e m hm)
    | some x => rfl
  have h2 : ixGet r.ix m.key = some m := by
    cases e : ixGet r.ix m.key with
    | none => exact absurd rfl (ixGet_none e m hm)
    | some x => obtain ⟨a, b⟩ := ixGet_some e; rw [h.ok.ix.one x a m hm b]
  rw [h.ok.ixT] at h1
  obtain ⟨p, hp, hpk, hpg⟩ := thas_mem h1 h.ok.tab
  have h3 := h.ixM p hp
  rw [hpk, h2] at h3
  have h4 : m = p.2.mark := Option.some.inj h3
  refine ⟨h1, by rw [hpg, ← h4], ?_⟩
  have h5 := (checkE_ok (h.g p hp).1).2.2.2.2.1
  unfold stampB at h5
  simp only [Bool.and_eq_true, decide_eq_true_eq] at h5
  cases h6 : m.isNone with
  | false => rfl
  | true =>
    have := MkV.isNone_iff.1 h6
    rw [h4] at this
    have h7 : p.2.ac = 0 := congrArg MkV.c this
    omega
end Go.Proofs.YtggbeedghblakaaGreatDoor
