/- Keys: several texts, joined. Lists that are sorted by a key: where a key stands, what is put, what is dropped, what is found; the order of texts. Plain Lean. -/
import Derived.Test.YtojfjbbggpfijaaGreatDoorLib
import Derived.Lib.Strings
import Derived.Sort.Walk0
import Derived.Test.YtojfjbbggpfijaaGreatDoorMarkA
namespace Go.Qd

structure Ordr {κ : Type} (lt : κ → κ → Bool) : Prop where
  irr : ∀ a, lt a a = false
  tr : ∀ {a b c}, lt a b = true → lt b c = true → lt a c = true
  tri : ∀ {a b}, lt a b = false → lt b a = false → a = b

theorem Ordr.asym {κ : Type} {lt : κ → κ → Bool} (O : Ordr lt) {a b : κ} (h : lt a b = true) : lt b a = false := by
  cases h' : lt b a with
  | false => rfl
  | true => have := O.tr h h'; rw [O.irr] at this; cases this
theorem Ordr.ne {κ : Type} {lt : κ → κ → Bool} (O : Ordr lt) {a b : κ} (h : lt a b = true) : a ≠ b := by rintro rfl; rw [O.irr] at h; cases h
section
variable {κ β : Type} (lt : κ → κ → Bool) (f : β → κ)

/-- Sorted by keys, each once. -/
def SrtK (l : List β) : Prop := l.Pairwise fun x y => lt (f x) (f y) = true
/-- How many stand ahead of a key. -/
def rankK (l : List β) (k : κ) : Nat := l.countP fun x => lt (f x) k
/-- Is a key there? -/
def hasK [DecidableEq κ] (l : List β) (k : κ) : Bool := l.any fun x => decide (f x = k)
def getK [DecidableEq κ] (l : List β) (k : κ) : Option β := l.find? fun x => decide (f x = k)
def delK [DecidableEq κ] (l : List β) (k : κ) : List β := l.filter fun x => !decide (f x = k)
def putK (l : List β) (x : β) : List β := l.filter (fun y => lt (f y) (f x)) ++ x :: l.filter (fun y => lt (f x) (f y))

variable {lt f} {l : List β} {k : κ}

theorem hasK_iff [DecidableEq κ] : hasK f l k = true ↔ ∃ x ∈ l, f x = k := by simp [hasK]
theorem hasK_no [DecidableEq κ] : hasK f l k = false ↔ ∀ x ∈ l, f x ≠ k := by simp [hasK]

theorem getK_some [DecidableEq κ] {x : β} (h : getK f l k = some x) : x ∈ l ∧ f x = k := by
  refine ⟨List.mem_of_find?_eq_some h, ?_⟩
  have := List.find?_some h; simpa using this
theorem getK_none [DecidableEq κ] : getK f l k = none ↔ hasK f l k = false := by
  rw [hasK_no]; simp [getK]
theorem getK_has [DecidableEq κ] : (getK f l k).isSome = hasK f l k := by
  cases h : getK f l k with
  | none => rw [getK_none] at h; rw [h]; rfl
  | some x => have := getK_some h; symm; exact hasK_iff.2 ⟨x, this⟩

theorem rankK_le : rankK lt f l k ≤ l.length := List.countP_le_length

theorem SrtK.nodup (O : Ordr lt) (h : SrtK lt f l) {x y : β} (hx : x ∈ l) (hy : y ∈ l) (e : f x = f y) : x = y := by
  induction l with
  | nil => cases hx
  | cons a l ih =>
    obtain ⟨ha, hl⟩ := List.pairwise_cons.1 h
    rcases List.mem_cons.1 hx with rfl | hx' <;> rcases List.mem_cons.1 hy with rfl | hy'
    · rfl
    · exact absurd e (O.ne (ha y hy'))
    · exact absurd e.symm (O.ne (ha x hx'))
    · exact ih hl hx' hy'

theorem getK_mem [DecidableEq κ] (O : Ordr lt) (h : SrtK lt f l) {x : β} (hx : x ∈ l) : getK f l (f x) = some x := by
  cases e : getK f l (f x) with
  | none => have := hasK_no.1 (getK_none.1 e) x hx; exact absurd rfl this
  | some y => obtain ⟨h1, h2⟩ := getK_some e; rw [h.nodup O h1 hx h2]

/-- What stands ahead of a key's place, and what from it on. -/
theorem rankK_split (O : Ordr lt) (h : SrtK lt f l) (k : κ) : l.take (rankK lt f l k) = l.filter (fun x => lt (f x) k) ∧ l.drop (rankK lt f l k) = l.filter (fun x => !lt (f x) k) := by
  induction l with
  | nil => simp
  | cons a l ih =>
    obtain ⟨ha, hl⟩ := List.pairwise_cons.1 h
    obtain ⟨i1, i2⟩ := ih hl
    cases hp : lt (f a) k with
    | true =>
      have hr : rankK lt f (a :: l) k = rankK lt f l k + 1 := by simp [rankK, hp]
      rw [hr]; simp [hp, i1, i2]
    | false =>
      have hx : ∀ x ∈ l, lt (f x) k = false := fun x hx => by
        cases hk : lt (f x) k with
        | false => rfl
        | true => have := O.tr (ha x hx) hk; rw [hp] at this; cases this
      have hr : rankK lt f (a :: l) k = 0 := List.countP_eq_zero.2 fun x hm => by
        rcases List.mem_cons.1 hm with rfl | hm
        · simp [hp]
        · simp [hx x hm]
      have h1 : l.filter (fun x => lt (f x) k) = [] := List.filter_eq_nil_iff.2 fun x hm => by simp [hx x hm]
      have h2 : l.filter (fun x => !lt (f x) k) = l := List.filter_eq_self.2 fun x hm => by simp [hx x hm]
      rw [hr]; simp [hp, h1, h2]

theorem rankK_lt (O : Ordr lt) (h : SrtK lt f l) {i : Nat} (hi : i < l.length) (hr : i < rankK lt f l k) : lt (f l[i]) k = true := by
  have hm : l[i] ∈ l.take (rankK lt f l k) := by
    rw [List.mem_take_iff_getElem]; exact ⟨i, by omega, rfl⟩
  rw [(rankK_split O h k).1] at hm
  exact (List.mem_filter.1 hm).2

theorem rankK_ge (O : Ordr lt) (h : SrtK lt f l) {i : Nat} (hi : i < l.length) (hr : rankK lt f l k ≤ i) : lt (f l[i]) k = false := by
  have hm : l[i] ∈ l.drop (rankK lt f l k) := by
    rw [List.mem_drop_iff_getElem]; exact ⟨i - rankK lt f l k, by omega, by simp only [Nat.add_sub_cancel' hr]⟩
  rw [(rankK_split O h k).2] at hm
  have := (List.mem_filter.1 hm).2
  simpa using this

/-- A key that is there stands at its place. -/
theorem rankK_at (O : Ordr lt) (h : SrtK lt f l) {x : β} (hx : x ∈ l) : l[rankK lt f l (f x)]? = some x := by
  obtain ⟨i, hi, rfl⟩ := List.mem_iff_getElem.1 hx
  have h1 : ¬ i < rankK lt f l (f l[i]) := fun hlt => by have := rankK_lt O h hi hlt; rw [O.irr] at this; cases this
  have h2 : ¬ rankK lt f l (f l[i]) < i := fun hlt => by
    have hj := rankK_ge O h (k := f l[i]) (i := rankK lt f l (f l[i])) (by omega) (Nat.le_refl _)
    have := List.pairwise_iff_getElem.1 h _ _ (by omega) hi hlt
    rw [hj] at this; cases this
  have e : rankK lt f l (f l[i]) = i := by omega
  rw [e]; exact List.getElem?_eq_getElem hi

theorem rankK_has [DecidableEq κ] (O : Ordr lt) (h : SrtK lt f l) (hk : hasK f l k = true) : ∃ x, l[rankK lt f l k]? = some x ∧ f x = k ∧ getK f l k = some x ∧ rankK lt f l k < l.length := by
  obtain ⟨x, hx, rfl⟩ := hasK_iff.1 hk
  have := rankK_at O h hx
  exact ⟨x, this, rfl, getK_mem O h hx, (List.getElem?_eq_some_iff.1 this).1⟩

theorem hasK_at [DecidableEq κ] (O : Ordr lt) (h : SrtK lt f l) (hr : rankK lt f l k < l.length) : hasK f l k = decide (f l[rankK lt f l k] = k) := by
  cases hk : hasK f l k with
  | true =>
    obtain ⟨x, h1, h2, _⟩ := rankK_has O h hk
    rw [List.getElem?_eq_getElem hr] at h1
    rw [Option.some.inj h1, h2]; simp
  | false =>
    have := hasK_no.1 hk _ (List.getElem_mem hr)
    simp [this]

theorem hasK_end [DecidableEq κ] (O : Ordr lt) (h : SrtK lt f l) (hr : ¬ rankK lt f l k < l.length) : hasK f l k = false := by
  cases hk : hasK f l k with
  | false => rfl
  | true => obtain ⟨_, _, _, _, h4⟩ := rankK_has O h hk; exact absurd h4 hr

theorem filter_ge [DecidableEq κ] (O : Ordr lt) (_h : SrtK lt f l) (x : β) (hk : hasK f l (f x) = false) : l.filter (fun y => !lt (f y) (f x)) = l.filter (fun y => lt (f x) (f y)) := by
  refine List.filter_congr fun y hy => ?_
  cases h1 : lt (f y) (f x) with
  | true => rw [O.asym h1]; rfl
  | false =>
    cases h2 : lt (f x) (f y) with
    | true => rfl
    | false => exact absurd (O.tri h1 h2) (hasK_no.1 hk y hy)

theorem putK_new [DecidableEq κ] (O : Ordr lt) (h : SrtK lt f l) (x : β) (hk : hasK f l (f x) = false) : l.take (rankK lt f l (f x)) ++ [x] ++ l.drop (rankK lt f l (f x)) = putK lt f l x := by
  obtain ⟨h1, h2⟩ := rankK_split O h (f x)
  rw [h1, h2, filter_ge O h x hk]; simp [putK]

theorem drop_succ_filter [DecidableEq κ] (O : Ordr lt) (h : SrtK lt f l) (hk : hasK f l k = true) : l.drop (rankK lt f l k + 1) = l.filter (fun y => lt k (f y)) := by
  obtain ⟨x, h1, h2, g3, h4⟩ := rankK_has O h hk
  obtain ⟨g4, e2⟩ := rankK_split O h k
  rw [List.drop_eq_getElem_cons h4] at e2
  have hx : l[rankK lt f l k] = x := by rw [List.getElem?_eq_getElem h4] at h1; exact Option.some.inj h1
  have hd : l.drop (rankK lt f l k + 1) = (l.filter (fun y => !lt (f y) k)).drop 1 := by rw [← e2]; rfl
  rw [hd]
  clear hd e2 h1 h4 hx g3 g4
  induction l with
  | nil => rfl
  | cons a l ih =>
    obtain ⟨ha, hl⟩ := List.pairwise_cons.1 h
    cases hc : lt (f a) k with
    | true =>
      have hk' : hasK f l k = true := by
        obtain ⟨y, hy, hy2⟩ := hasK_iff.1 hk
        rcases List.mem_cons.1 hy with rfl | hy
        · rw [hy2, O.irr] at hc; cases hc
        · exact hasK_iff.2 ⟨y, hy, hy2⟩
      have hn : lt k (f a) = false := O.asym hc
      rw [List.filter_cons_of_neg (by simp [hc]), List.filter_cons_of_neg (by simp [hn])]
      exact ih hl hk'
    | false =>
      rw [List.filter_cons_of_pos (by simp [hc]), List.drop_one, List.tail_cons]
      have hak : lt k (f a) = false ∧ ∀ y ∈ l, lt k (f y) = true := by
        obtain ⟨y, hy, hy2⟩ := hasK_iff.1 hk
        rcases List.mem_cons.1 hy with rfl | hy
        · exact ⟨by rw [hy2]; exact O.irr _, fun z hz => by rw [← hy2]; exact ha z hz⟩
        · have := ha y hy; rw [hy2, hc] at this; cases this
      rw [List.filter_cons_of_neg (by simp [hak.1])]
      rw [List.filter_eq_self.2 fun y hy => by simp [O.asym (hak.2 y hy)], List.filter_eq_self.2 fun y hy => hak.2 y hy]

theorem putK_old [DecidableEq κ] (O : Ordr lt) (h : SrtK lt f l) (x : β) (hk : hasK f l (f x) = true) : l.set (rankK lt f l (f x)) x = putK lt f l x := by
  obtain ⟨y, h1, h2, _, h4⟩ := rankK_has O h hk
  rw [List.set_eq_take_append_cons_drop, if_pos h4, (rankK_split O h (f x)).1, drop_succ_filter O h hk]; rfl

theorem delK_eq [DecidableEq κ] (O : Ordr lt) (h : SrtK lt f l) (hk : hasK f l k = true) : l.take (rankK lt f l k) ++ l.drop (rankK lt f l k + 1) = delK f l k := by
  rw [(rankK_split O h k).1, drop_succ_filter O h hk]
  clear hk
  induction l with
  | nil => rfl
  | cons a l ih =>
    obtain ⟨ha, hl⟩ := List.pairwise_cons.1 h
    have ih' := ih hl
    unfold delK at ih' ⊢
    cases hc : lt (f a) k with
    | true =>
      rw [List.filter_cons_of_pos (by simp [hc]), List.filter_cons_of_neg (by simp [O.asym hc]), List.filter_cons_of_pos (by simp [O.ne hc]), List.cons_append, ih']
    | false =>
      have e : l.filter (fun x => lt (f x) k) = [] := List.filter_eq_nil_iff.2 fun y hy => by
        cases hy' : lt (f y) k with
        | false => simp
        | true => have := O.tr (ha y hy) hy'; rw [hc] at this; cases this
      rw [e, List.nil_append] at ih'
      rw [List.filter_cons_of_neg (by simp [hc]), e, List.nil_append]
      cases hd : lt k (f a) with
      | true => rw [List.filter_cons_of_pos (by simp [hd]), List.filter_cons_of_pos (by simp; exact (O.ne hd).symm), ih']
      | false =>
        have := O.tri hc hd
        rw [List.filter_cons_of_neg (by simp [hd]), List.filter_cons_of_neg (by simp [this]), ih']

theorem mem_putK (O : Ordr lt) {x y : β} : y ∈ putK lt f l x ↔ y = x ∨ (y ∈ l ∧ f y ≠ f x) := by
  simp only [putK, List.mem_append, List.mem_cons, List.mem_filter]
  constructor
  · rintro (⟨h1, h2⟩ | rfl | ⟨h1, h2⟩)
    · exact .inr ⟨h1, O.ne h2⟩
    · exact .inl rfl
    · exact .inr ⟨h1, (O.ne h2).symm⟩
  · rintro (rfl | ⟨h1, h2⟩)
    · exact .inr (.inl rfl)
    · cases h3 : lt (f y) (f x) with
      | true => exact .inl ⟨h1, rfl⟩
      | false =>
        cases h4 : lt (f x) (f y) with
        | true => exact .inr (.inr ⟨h1, rfl⟩)
        | false => exact absurd (O.tri h3 h4) h2

theorem putK_srt (O : Ordr lt) (h : SrtK lt f l) (x : β) : SrtK lt f (putK lt f l x) := by
  refine List.pairwise_append.2 ⟨List.Pairwise.sublist List.filter_sublist h, List.pairwise_cons.2 ⟨fun y hy => (List.mem_filter.1 hy).2, List.Pairwise.sublist List.filter_sublist h⟩, fun y hy z hz => ?_⟩
  have h1 := (List.mem_filter.1 hy).2
  rcases List.mem_cons.1 hz with rfl | hz
  · exact h1
  · exact O.tr h1 (List.mem_filter.1 hz).2

theorem putK_len_new [DecidableEq κ] (O : Ordr lt) (h : SrtK lt f l) (x : β) (hk : hasK f l (f x) = false) : (putK lt f l x).length = l.length + 1 := by
  rw [← putK_new O h x hk]
  have := rankK_le (lt := lt) (f := f) (l := l) (k := f x)
  simp; omega
theorem putK_len_old [DecidableEq κ] (O : Ordr lt) (h : SrtK lt f l) (x : β) (hk : hasK f l (f x) = true) : (putK lt f l x).length = l.length := by
  rw [← putK_old O h x hk]; simp

theorem getK_put [DecidableEq κ] (O : Ordr lt) (h : SrtK lt f l) (x : β) (k : κ) : getK f (putK lt f l x) k = if f x = k then some x else getK f l k := by
  have hs := putK_srt O h x
  by_cases hk : f x = k
  · rw [if_pos hk, ← hk]; exact getK_mem O hs ((mem_putK O).2 (.inl rfl))
  · rw [if_neg hk]
    cases e : getK f l k with
    | some y =>
      obtain ⟨h1, h2⟩ := getK_some e
      rw [← h2]
      exact getK_mem O hs ((mem_putK O).2 (.inr ⟨h1, fun h' => hk (h'.symm.trans h2)⟩))
    | none =>
      rw [getK_none, hasK_no] at e ⊢
      intro y hy
      rcases (mem_putK O).1 hy with rfl | ⟨h1, _⟩
      · exact hk
      · exact e y h1
theorem hasK_put [DecidableEq κ] (O : Ordr lt) (h : SrtK lt f l) (x : β) (k : κ) : hasK f (putK lt f l x) k = (decide (f x = k) || hasK f l k) := by
  rw [← getK_has, getK_put O h, ← getK_has]
  by_cases hk : f x = k <;> simp [hk]

theorem delK_len [DecidableEq κ] (O : Ordr lt) (h : SrtK lt f l) (hk : hasK f l k = true) : (delK f l k).length + 1 = l.length := by
  rw [← delK_eq O h hk]
  obtain ⟨_, _, _, _, h4⟩ := rankK_has O h hk
  simp; omega

/-- Sorted lists with the same elements are the same. -/
theorem srtK_ext (O : Ordr lt) {a b : List β} (ha : SrtK lt f a) (hb : SrtK lt f b) (h : ∀ x, x ∈ a ↔ x ∈ b) : a = b := by
  induction a generalizing b with
  | nil =>
    cases b with
    | nil => rfl
    | cons y b => have := (h y).2 (by simp); simp at this
  | cons x a ih =>
    cases b with
    | nil => have := (h x).1 (by simp); simp at this
    | cons y b =>
      obtain ⟨a1, a2⟩ := List.pairwise_cons.1 ha
      obtain ⟨b1, b2⟩ := List.pairwise_cons.1 hb
      have hxy : x = y := by
        rcases List.mem_cons.1 ((h x).1 (by simp)) with g | g
        · exact g
        · rcases List.mem_cons.1 ((h y).2 (by simp)) with g' | g'
          · exact g'.symm
          · have := O.tr (b1 x g) (a1 y g'); rw [O.irr] at this; cases this
      subst hxy
      congr 1
      refine ih a2 b2 fun z => ?_
      constructor
      · intro hz
        rcases List.mem_cons.1 ((h z).1 (by simp [hz])) with g | g
        · have := a1 z hz; rw [g, O.irr] at this; cases this
        · exact g
      · intro hz
        rcases List.mem_cons.1 ((h z).2 (by simp [hz])) with g | g
        · have := b1 z hz; rw [g, O.irr] at this; cases this
        · exact g
end

/-! The order of texts. -/

/-- The order of texts is that of their bytes. -/
def kLt (a b : ByteArray) : Bool := Op.bytesLess a.toList b.toList
theorem kLt_eq (a b : ByteArray) : kLt a b = decide (a.data.toList < b.data.toList) := by simp [kLt, Proofs.bytesLess_eq, Lib.toList_data]

theorem kb_inj {a b : ByteArray} (h : a.data.toList = b.data.toList) : a = b := by
  cases a; cases b; simp at h; simp [h]

theorem kLt_ord : Ordr kLt where
  irr a := by simp [kLt_eq, List.lt_irrefl]
  tr {a b c} h h' := by simp only [kLt_eq, decide_eq_true_eq] at *; exact List.lt_trans h h'
  tri {a b} h h' := by
    simp only [kLt_eq, decide_eq_false_iff_not] at *
    exact kb_inj (List.le_antisymm (List.not_lt.1 h') (List.not_lt.1 h))

end Go.Qd

/- The replica in plain Lean: bytes of entries, sums, the disk, the journal's records, tables, graves, marks; what a replica does. -/
namespace Go.Proofs.YtojfjbbggpfijaaGreatDoor
open Go.RowKit Go.Qd

def EnV.zero : EnV := ⟨ByteArray.empty, ByteArray.empty, false, 0, 0, 0, 0, 0, 0⟩
def EnV.mark (e : EnV) : MkV := ⟨e.ac, e.az, e.key⟩
def newerB (a b : EnV) : Bool := if cmpS a.sc a.ss b.sc b.ss = 0 then decide (0 < cmpS a.ac a.az b.ac b.az) else decide (0 < cmpS a.sc a.ss b.sc b.ss)

/-! Bytes. -/
def leB (v w : Nat) : List UInt8 := (List.range w).map fun i => UInt8.ofNat (v / 256 ^ i)
def txtB (s : ByteArray) : List UInt8 := UInt8.ofNat s.size :: s.data.toList
def flagB (b : Bool) : List UInt8 := [if b then 1 else 0]
def encE (e : EnV) : List UInt8 :=
  txtB e.key ++ flagB e.dead ++ txtB e.val ++ leB e.sc.toNat 4 ++ leB e.ss.toNat 1 ++ leB e.ac.toNat 4 ++ leB e.az.toNat 1 ++ leB e.kp.toNat 2 ++ leB e.age.toNat 4

/-! Sums. -/
def fnvS (n : Nat) (c : UInt8) : Nat := ((n ^^^ c.toNat) * 1099511628211) % 18446744073709551616
def hashE (e : EnV) : Nat := if checkE e = 0 then ((encE e).take ((encE e).length - 6)).foldl fnvS 14695981039346656037 else 0

/-! Check sums. -/
def downN (v : Nat) : Nat := if v % 2 = 1 then (v / 2) ^^^ 3988292384 else v / 2
def downsN : Nat → Nat → Nat
  | 0, v => v
  | k + 1, v => downsN k (downN v)
def rowN (i : Nat) : Nat := downsN 8 i
def crcS (v : Nat) (c : UInt8) : Nat := rowN ((v % 256) ^^^ c.toNat) ^^^ (v / 256)
def crcMore (sum : Nat) (b : List UInt8) : Nat := 4294967295 - b.foldl crcS (4294967295 - sum)
def sealB (b : List UInt8) : List UInt8 := b ++ leB (crcMore 0 b) 4
def recB (b : List UInt8) : List UInt8 := sealB (leB b.length 2) ++ sealB b

/-! The disk. -/
structure DskV where
  off : Bool
  left : Int
  b : List UInt8
  safe : Nat
def DskV.new : DskV := ⟨false, -1, [], 0⟩
/-- One call is taken off. -/
def DskV.used (d : DskV) : DskV := if d.left = 0 then { d with off := true } else if 0 < d.left then { d with left := d.left - 1 } else d
/-- What is told of a call that does a change: the error's number. -/
def DskV.code (d : DskV) (wrong : Int) : Int := if d.off = true then 11 else if wrong ≠ 0 then wrong else if d.left = 0 then 11 else 0
def DskV.appendW (d : DskV) (n : Nat) : Int := if n + d.b.length ≤ 1048576 then 0 else 7
def DskV.append (d : DskV) (x : List UInt8) : DskV :=
  if d.code (d.appendW x.length) = 0 then { d.used with b := d.b ++ x } else if d.off = true ∨ d.appendW x.length ≠ 0 then d else d.used
def DskV.sync (d : DskV) : DskV := if d.code 0 = 0 then { d.used with safe := d.b.length } else if d.off = true then d else d.used

/-- A record is added: the error's number. -/
def DskV.addW (d : DskV) (x : List UInt8) : Int :=
  if x.length = 0 then 1 else if 512 < x.length then 7 else
  if d.code (d.appendW (recB x).length) ≠ 0 then d.code (d.appendW (recB x).length) else (d.append (recB x)).code 0
def DskV.add (d : DskV) (x : List UInt8) : DskV :=
  if x.length = 0 then d else if 512 < x.length then d else
  if d.code (d.appendW (recB x).length) ≠ 0 then d.append (recB x) else (d.append (recB x)).sync

/-! Tables, marks, graves. -/
abbrev KE := ByteArray × EnV
def tget (l : List KE) (k : ByteArray) : EnV := ((getK Prod.fst l k).map (·.2)).getD EnV.zero
def thas (l : List KE) (k : ByteArray) : Bool := hasK Prod.fst l k
def tput (l : List KE) (k : ByteArray) (e : EnV) : List KE := putK kLt Prod.fst l (k, e)
def TSrt (l : List KE) : Prop := SrtK kLt Prod.fst l

/-- Which of two marks is the later one. -/
def mLt (a b : MkV) : Bool := decide (cmpS b.c b.s a.c a.s < 0) || (decide (cmpS b.c b.s a.c a.s = 0) && kLt b.key a.key)
def ixDrop (l : List MkV) (k : ByteArray) : List MkV := l.filter fun m => !decide (m.key = k)

def dutyB (e : EnV) (site : Int) : Bool := e.dead && (decide (0 ≤ site) && (decide (site < 12) && (e.kp.toNat.testBit site.toNat)))
def laterB (c s d t : Int) : Bool := decide (0 < cmpS c s d t)
def bothE (was e : EnV) : EnV := { was with ac := if laterB e.ac e.az was.ac was.az then e.ac else was.ac, az := if laterB e.ac e.az was.ac was.az then e.az else was.az, age := if was.age ≤ e.age then was.age else e.age }

/-! The replica. -/
structure RepV where
  nodes : Int
  quota : Int
  retain : Int
  t1 : Int
  t2 : Int
  site : Int
  cnt : Int
  tab : List KE
  own : List (ByteArray × Bool)
  ix : List MkV
  sum : Nat
  gr : List KE
  d : DskV

def buryT (site t2 : Int) (gr : List KE) (e : EnV) : List KE :=
  if (decide (checkE e ≠ 0) || (!dutyB e site || decide (t2 ≤ e.age))) = true then gr
  else if thas gr e.key = true then
    if 0 < cmpS (tget gr e.key).sc (tget gr e.key).ss e.sc e.ss then gr
    else if cmpS (tget gr e.key).sc (tget gr e.key).ss e.sc e.ss = 0 then tput gr e.key (bothE (tget gr e.key) e)
    else tput gr e.key e
  else if gr.length < 4096 then tput gr e.key e else gr

namespace RepV
def room (r : RepV) : Int := r.nodes * r.quota
/-- May a key have a place in the table? -/
def roomB (r : RepV) (k : ByteArray) : Bool := thas r.tab k || decide ((r.tab.length : Int) < r.room)
def placed (r : RepV) (e : EnV) : RepV :=
  { r with
    tab := tput r.tab e.key e
    sum := ((if thas r.tab e.key = true then (r.sum + (18446744073709551616 - hashE (tget r.tab e.key))) % 18446744073709551616 else r.sum) + hashE e) % 18446744073709551616
    ix := putK mLt id (ixDrop r.ix e.key) e.mark }
def ownPut (o : List (ByteArray × Bool)) (k : ByteArray) : List (ByteArray × Bool) :=
  if (hasK Prod.fst o k || decide (o.length < 4096)) = true then putK kLt Prod.fst o (k, true) else o
def wrote (r : RepV) (e : EnV) : RepV := if e.ss = r.site then { r with own := ownPut r.own e.key } else r
def buried (r : RepV) (e : EnV) : RepV := { r with gr := buryT r.site r.t2 r.gr e }
/-- An entry is set down: the error's number. -/
def setW (r : RepV) (e : EnV) : Int :=
  if checkE e ≠ 0 then checkE e else if r.d.addW (encE e) ≠ 0 then r.d.addW (encE e) else if r.roomB e.key = true then 0 else 7
def set (r : RepV) (e : EnV) : RepV :=
  if checkE e ≠ 0 then r else if r.d.addW (encE e) ≠ 0 then { r with d := r.d.add (encE e) }
  else if r.roomB e.key = true then (({ r with d := r.d.add (encE e) }.wrote e).buried e).placed e else ({ r with d := r.d.add (encE e) }.wrote e).buried e
def see (r : RepV) (c s : Int) : RepV := if (stampB c s && decide (r.cnt < c)) = true then { r with cnt := c } else r
/-- May no further key be written? -/
def fullB (r : RepV) (k : ByteArray) : Bool := (!hasK Prod.fst r.own k && decide (r.quota ≤ (r.own.length : Int))) || !r.roomB k
end RepV
def putE (k v : ByteArray) (c s : Int) : EnV := ⟨k, v, false, c, s, c, s, 0, 0⟩
namespace RepV
/-- An entry that is made of the clock's next stamp is set down: the replica; the error's number. -/
def writeW (r : RepV) (k : ByteArray) (made : Int → Int → EnV) : Int :=
  if r.fullB k = true then 7 else if 4294967295 ≤ r.cnt then 8
  else if checkE (made (r.cnt + 1) r.site) ≠ 0 then checkE (made (r.cnt + 1) r.site) else { r with cnt := r.cnt + 1 }.setW (made (r.cnt + 1) r.site)
def write (r : RepV) (k : ByteArray) (made : Int → Int → EnV) : RepV :=
  if r.fullB k = true then r else if 4294967295 ≤ r.cnt then r
  else if checkE (made (r.cnt + 1) r.site) ≠ 0 then { r with cnt := r.cnt + 1 } else { r with cnt := r.cnt + 1 }.set (made (r.cnt + 1) r.site)
def putW (r : RepV) (k v : ByteArray) : Int := if checkE (putE k v 1 0) ≠ 0 then checkE (putE k v 1 0) else r.writeW k (putE k v)
def put (r : RepV) (k v : ByteArray) : RepV := if checkE (putE k v 1 0) ≠ 0 then r else r.write k (putE k v)
def putX (r : RepV) (k v : ByteArray) : EnV := if r.putW k v = 0 then putE k v (r.cnt + 1) r.site else EnV.zero

/-- The age of an entry that comes in. -/
def agedV (r : RepV) (e was : EnV) : Int :=
  if e.dead = false then e.age else if r.t1 = 0 then 0 else if was.dead = true then (if e.age + 1 ≤ was.age then e.age + 1 else was.age) else e.age + 1
def aged (r : RepV) (e was : EnV) : EnV := { e with age := r.agedV e was }
/-- Is a key's grave later than an entry? -/
def overB (r : RepV) (e : EnV) : Bool := thas r.gr e.key && decide (0 < cmpS (tget r.gr e.key).sc (tget r.gr e.key).ss e.sc e.ss)
def wakeE (g : EnV) (c s : Int) : EnV := { g with ac := c, az := s, age := 0 }
def wakeC (g : EnV) (c s : Int) : Int := if checkE g ≠ 0 then checkE g else if (!g.dead || (!stampB c s || decide (cmpS c s g.ac g.az ≤ 0))) = true then 1 else 0
def wokenW (r : RepV) (k : ByteArray) : Int :=
  if 4294967295 ≤ r.cnt then 8 else if wakeC (tget r.gr k) (r.cnt + 1) r.site ≠ 0 then wakeC (tget r.gr k) (r.cnt + 1) r.site
  else { r with cnt := r.cnt + 1 }.setW (wakeE (tget r.gr k) (r.cnt + 1) r.site)
def woken (r : RepV) (k : ByteArray) : RepV :=
  if 4294967295 ≤ r.cnt then r else if wakeC (tget r.gr k) (r.cnt + 1) r.site ≠ 0 then { r with cnt := r.cnt + 1 }
  else { r with cnt := r.cnt + 1 }.set (wakeE (tget r.gr k) (r.cnt + 1) r.site)
/-- What is there already, and isn't older, stays: but its age may fall. -/
def stay (r : RepV) (e : EnV) : RepV :=
  if ((tget r.tab e.key).dead && e.dead) = true then { r with tab := tput r.tab e.key { tget r.tab e.key with age := r.agedV e (tget r.tab e.key) } } else r
/-- Which way an entry goes that comes in: 0 it is there, 1 too old, 2 no room, 3 it wakes a grave, 4 it is set down. -/
def way (r : RepV) (e : EnV) : Nat :=
  if (thas r.tab e.key && !newerB e (tget r.tab e.key)) = true then 0
  else if (e.dead && (decide (0 < r.t1) && decide (r.t1 - 1 ≤ e.age))) = true then 1
  else if r.roomB e.key = false then 2 else if r.overB e = true then 3 else 4
def mergeIn (r : RepV) (e : EnV) : RepV := match r.way e with
  | 0 => r.stay e
  | 1 => r
  | 2 => r
  | 3 => r.woken e.key
  | _ => r.set (r.aged e (tget r.tab e.key))
def mergeInW (r : RepV) (e : EnV) : Int := match r.way e with
  | 0 => 0
  | 1 => 0
  | 2 => 7
  | 3 => r.wokenW e.key
  | _ => r.setW (r.aged e (tget r.tab e.key))
def mergeInK (r : RepV) (e : EnV) : Int := match r.way e with
  | 0 => 0
  | 1 => 0
  | 2 => 0
  | 3 => if r.wokenW e.key = 0 then 2 else 0
  | _ => if r.setW (r.aged e (tget r.tab e.key)) = 0 then 1 else 0
def mergeInX (r : RepV) (e : EnV) : EnV := match r.way e with
  | 0 => EnV.zero
  | 1 => EnV.zero
  | 2 => EnV.zero
  | 3 => if r.wokenW e.key = 0 then wakeE (tget r.gr e.key) (r.cnt + 1) r.site else EnV.zero
  | _ => if r.setW (r.aged e (tget r.tab e.key)) = 0 then r.aged e (tget r.tab e.key) else EnV.zero
def merge (r : RepV) (e : EnV) : RepV := if checkE e ≠ 0 then r else (r.see e.ac e.az).mergeIn e
def mergeW (r : RepV) (e : EnV) : Int := if checkE e ≠ 0 then checkE e else (r.see e.ac e.az).mergeInW e
def mergeK (r : RepV) (e : EnV) : Int := if checkE e ≠ 0 then 0 else (r.see e.ac e.az).mergeInK e
def mergeX (r : RepV) (e : EnV) : EnV := if checkE e ≠ 0 then EnV.zero else (r.see e.ac e.az).mergeInX e
/-- The replica of a site of a disk that has no bytes. -/
def fresh (nodes quota retain t1 t2 site : Int) (d : DskV) : RepV := ⟨nodes, quota, retain, t1, t2, site, 0, [], [], [], 0, [], d⟩
end RepV

end Go.Proofs.YtojfjbbggpfijaaGreatDoor

/- Which stamp, mark, entry is later: the orders, in plain Lean. -/
namespace Go.Proofs.YtojfjbbggpfijaaGreatDoor
open Go.RowKit Go.Qd

theorem cmpI_zero {x y : Int} : cmpI x y = 0 ↔ x = y := by unfold cmpI; split <;> (try split) <;> omega
theorem cmpI_lt {x y : Int} : cmpI x y < 0 ↔ x < y := by unfold cmpI; split <;> (try split) <;> omega
theorem cmpI_gt {x y : Int} : 0 < cmpI x y ↔ y < x := by unfold cmpI; split <;> (try split) <;> omega
theorem cmpS_zero {c s d t : Int} : cmpS c s d t = 0 ↔ c = d ∧ s = t := by
  unfold cmpS orI
  have h1 := @cmpI_zero c d
  have h2 := @cmpI_zero s t
  split <;> omega
theorem cmpS_lt {c s d t : Int} : cmpS c s d t < 0 ↔ c < d ∨ (c = d ∧ s < t) := by
  unfold cmpS orI
  have h1 := @cmpI_zero c d
  have h2 := @cmpI_lt c d
  have h3 := @cmpI_lt s t
  split <;> omega
theorem cmpS_gt {c s d t : Int} : 0 < cmpS c s d t ↔ d < c ∨ (c = d ∧ t < s) := by
  unfold cmpS orI
  have h1 := @cmpI_zero c d
  have h2 := @cmpI_gt c d
  have h3 := @cmpI_gt s t
  split <;> omega

theorem newerB_iff {a b : EnV} : newerB a b = true ↔ (b.sc < a.sc ∨ (a.sc = b.sc ∧ b.ss < a.ss)) ∨ (a.sc = b.sc ∧ a.ss = b.ss ∧ (b.ac < a.ac ∨ (a.ac = b.ac ∧ b.az < a.az))) := by
  unfold newerB
  have h0 := @cmpS_zero a.sc a.ss b.sc b.ss
  have h1 := @cmpS_gt a.sc a.ss b.sc b.ss
  have h2 := @cmpS_gt a.ac a.az b.ac b.az
  split
  · simp only [decide_eq_true_eq]; omega
  · simp only [decide_eq_true_eq]; omega

theorem newerB_irr (a : EnV) : newerB a a = false := by
  cases h : newerB a a with
  | false => rfl
  | true => rw [newerB_iff] at h; omega
theorem newerB_trans {a b c : EnV} (h : newerB a b = true) (h' : newerB b c = true) : newerB a c = true := by rw [newerB_iff] at *; omega
/-- What isn't newer than something that isn't newer than a third isn't newer than that. -/
theorem newerB_not {a b c : EnV} (h : newerB a b = false) (h' : newerB b c = false) : newerB a c = false := by
  cases e : newerB a c with
  | false => rfl
  | true =>
    have h1 : ¬ newerB a b = true := by rw [h]; simp
    have h2 : ¬ newerB b c = true := by rw [h']; simp
    rw [newerB_iff] at h1 h2 e; omega
theorem newerB_same {a b : EnV} (h : newerB a b = false) (h' : newerB b a = false) : a.sc = b.sc ∧ a.ss = b.ss ∧ a.ac = b.ac ∧ a.az = b.az := by
  have h1 : ¬ newerB a b = true := by rw [h]; simp
  have h2 : ¬ newerB b a = true := by rw [h']; simp
  rw [newerB_iff] at h1 h2; omega

instance : DecidableEq MkV := fun a b => decidable_of_iff (a.c = b.c ∧ a.s = b.s ∧ a.key = b.key) (by
  cases a; cases b; simp)

theorem mLt_iff {a b : MkV} : mLt a b = true ↔ (b.c < a.c ∨ (b.c = a.c ∧ b.s < a.s)) ∨ ((b.c = a.c ∧ b.s = a.s) ∧ kLt b.key a.key = true) := by
  unfold mLt
  simp only [Bool.or_eq_true, Bool.and_eq_true, decide_eq_true_eq, cmpS_lt, cmpS_zero]

theorem mLt_ord : Ordr mLt where
  irr a := by
    cases h : mLt a a with
    | false => rfl
    | true => rw [mLt_iff, kLt_ord.irr] at h; simp at h
  tr {a b c} h h' := by
    rw [mLt_iff] at *
    rcases h with h | ⟨h1, h2⟩ <;> rcases h' with h' | ⟨h3, h4⟩
    · left; omega
    · left; omega
    · left; omega
    · right; exact ⟨by omega, kLt_ord.tr h4 h2⟩
  tri {a b} h h' := by
    have h1 : ¬ mLt a b = true := by rw [h]; simp
    have h2 : ¬ mLt b a = true := by rw [h']; simp
    rw [mLt_iff] at h1 h2
    simp only [not_or, not_and] at h1 h2
    have e1 : a.c = b.c := by omega
    have e2 : a.s = b.s := by omega
    have e3 : a.key = b.key := (kLt_ord.tri (by simpa using h1.2 ⟨e1.symm, e2.symm⟩) (by simpa using h2.2 ⟨e1, e2⟩)).symm
    cases a; cases b; simp_all

/-! An entry that may be. -/
theorem checkE_ok {e : EnV} (h : checkE e = 0) : 1 ≤ e.key.size ∧ e.key.size ≤ 16 ∧ e.val.size ≤ 32 ∧ stampB e.sc e.ss = true ∧ stampB e.ac e.az = true ∧ ¬ cmpS e.ac e.az e.sc e.ss < 0 ∧
    (e.dead = false → plainB e = true) ∧ (e.dead = true → keptB e = true ∧ nilB e.val = true) := by
  unfold checkE at h
  split at h
  · cases h
  rename_i h1
  split at h
  · cases h
  rename_i h2
  split at h
  · cases h
  rename_i h3
  split at h
  · cases h
  rename_i h4
  simp only [Bool.or_eq_true, decide_eq_true_eq, not_or, Bool.and_eq_true, Bool.not_eq_true', not_and] at h1 h2 h3 h4
  refine ⟨by omega, by omega, by omega, by simpa using h3.1, by simpa using h3.2.1, h3.2.2, fun hd => by simpa using h4.1 hd, fun hd => ⟨by simpa using h4.2 hd, by simpa using h2.2 hd⟩⟩

theorem checkE_of {e : EnV} (h1 : 1 ≤ e.key.size ∧ e.key.size ≤ 16) (h2 : e.val.size ≤ 32) (h3 : stampB e.sc e.ss = true) (h4 : stampB e.ac e.az = true) (h5 : ¬ cmpS e.ac e.az e.sc e.ss < 0)
    (h6 : e.dead = false → plainB e = true) (h7 : e.dead = true → keptB e = true ∧ nilB e.val = true) : checkE e = 0 := by
  unfold checkE
  rw [if_neg (by simp only [Bool.or_eq_true, decide_eq_true_eq]; omega), if_neg, if_neg, if_neg]
  · simp only [Bool.or_eq_true, Bool.and_eq_true, Bool.not_eq_true']
    rintro (⟨hd, hp⟩ | ⟨hd, hp⟩)
    · rw [h6 hd] at hp; cases hp
    · rw [(h7 hd).1] at hp; cases hp
  · simp [h3, h4, h5]
  · simp only [Bool.or_eq_true, decide_eq_true_eq, Bool.and_eq_true, Bool.not_eq_true']
    rintro (hv | ⟨hd, hp⟩)
    · omega
    · rw [(h7 hd).2] at hp; cases hp

theorem leB_len (v w : Nat) : (leB v w).length = w := by simp [leB]
theorem txtB_len (s : ByteArray) : (txtB s).length = s.size + 1 := by
  unfold txtB; rw [List.length_cons, Array.length_toList]; rfl
theorem encE_len (e : EnV) : (encE e).length = e.key.size + e.val.size + 19 := by
  unfold encE flagB; simp only [List.length_append, txtB_len, leB_len, List.length_singleton]; omega
theorem sealB_len (b : List UInt8) : (sealB b).length = b.length + 4 := by simp [sealB, leB_len]
theorem recB_len (b : List UInt8) : (recB b).length = b.length + 10 := by simp only [recB, List.length_append, sealB_len, leB_len]; omega

end Go.Proofs.YtojfjbbggpfijaaGreatDoor
