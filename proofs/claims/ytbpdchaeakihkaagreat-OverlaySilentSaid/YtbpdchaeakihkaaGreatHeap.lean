/-
  A small logic of ownership over the worlds of the model: a list of resources (cells that are owned, cells that are only read, whole objects), of which no two share a cell that is written.
  'St W w l': w grew out of W, nothing that W had has changed, and w holds the resources l, all owned ones in memory that is newer than W.
-/
import Derived.WalkKit
import Derived.ArgAppend
import Derived.Laws.IdiomCopy
import Derived.Deep.QuietTactic
namespace Go.Qd
open Go.RowKit

/-- A fact that the walk's simp shall not take for a rule: 'H.out' gives it back. -/
theorem hid {p : Prop} (h : p) : Hid p := h

inductive Res where
  | cell (v : Value)
  | ro (v : Value)
  | obj (o : Obj)

def Res.own : Res → Bool
  | .ro _ => false
  | _ => true

def Obj.isCells : Obj → Bool
  | .cells .. => true
  | _ => false

abbrev HL := Nat → Nat → Option Res
abbrev HP := HL → Prop

def compat (h k : HL) : Prop := ∀ b o, h b o = none ∨ k b o = none ∨ ∃ v, h b o = some (.ro v) ∧ k b o = some (.ro v)
def join (h k : HL) : HL := fun b o => (h b o).or (k b o)
def star (A B : HP) : HP := fun h => ∃ h1 h2, compat h1 h2 ∧ h = join h1 h2 ∧ A h1 ∧ B h2
def emp : HP := fun h => ∀ b o, h b o = none
def sepL : List HP → HP
  | [] => emp
  | A :: l => star A (sepL l)

theorem compat.symm {h k : HL} (c : compat h k) : compat k h := fun b o => by
  rcases c b o with h1 | h1 | ⟨v, h1, h2⟩
  · exact .inr (.inl h1)
  · exact .inl h1
  · exact .inr (.inr ⟨v, h2, h1⟩)

theorem join_comm {h k : HL} (c : compat h k) : join h k = join k h := by
  funext b o
  unfold join
  rcases c b o with h1 | h1 | ⟨v, h1, h2⟩
  · simp [h1]
  · simp [h1]
  · simp [h1, h2]

theorem join_assoc (h k l : HL) : join (join h k) l = join h (join k l) := by
  funext b o
  unfold join
  cases h b o <;> simp

theorem star_comm {A B : HP} {h : HL} (s : star A B h) : star B A h := by
  obtain ⟨h1, h2, c, rfl, a, b⟩ := s
  exact ⟨h2, h1, c.symm, join_comm c, b, a⟩

theorem compat_join_left {h k l : HL} (c : compat h (join k l)) : compat h k := fun b o => by
  rcases c b o with h1 | h1 | ⟨v, h1, h2⟩
  · exact .inl h1
  · unfold join at h1
    cases hk : k b o <;> simp [hk] at h1
    exact .inr (.inl rfl)
  · unfold join at h2
    cases hk : k b o with
    | none => exact .inr (.inl rfl)
    | some r => simp [hk] at h2; exact .inr (.inr ⟨v, h1, by rw [h2]⟩)

theorem compat_join_right {h k l : HL} (ckl : compat k l) (c : compat h (join k l)) : compat h l := by
  rw [join_comm ckl] at c
  exact compat_join_left c

theorem compat_join {h k l : HL} (c1 : compat h l) (c2 : compat k l) : compat (join h k) l := fun b o => by
  unfold join
  rcases c2 b o with h1 | h1 | ⟨v, h1, h2⟩
  · rcases c1 b o with g1 | g1 | ⟨u, g1, g2⟩
    · exact .inl (by simp [h1, g1])
    · exact .inr (.inl g1)
    · exact .inr (.inr ⟨u, by simp [g1], g2⟩)
  · exact .inr (.inl h1)
  · rcases c1 b o with g1 | g1 | ⟨u, g1, g2⟩
    · exact .inr (.inr ⟨v, by simp [g1, h1], h2⟩)
    · exact .inr (.inl g1)
    · exact .inr (.inr ⟨u, by simp [g1], g2⟩)

theorem star_assoc {A B C : HP} {h : HL} (s : star A (star B C) h) : star (star A B) C h := by
  obtain ⟨h1, h23, c, rfl, a, h2, h3, c', rfl, b, d⟩ := s
  exact ⟨join h1 h2, h3, compat_join (compat_join_right c' c) c', (join_assoc _ _ _).symm, ⟨h1, h2, compat_join_left c, rfl, a, b⟩, d⟩

theorem star_mono {A A' B B' : HP} {h : HL} (ha : ∀ h, A h → A' h) (hb : ∀ h, B h → B' h) (s : star A B h) : star A' B' h := by
  obtain ⟨h1, h2, c, e, a, b⟩ := s
  exact ⟨h1, h2, c, e, ha _ a, hb _ b⟩

theorem star_assoc' {A B C : HP} {h : HL} (s : star (star A B) C h) : star A (star B C) h :=
  star_comm (star_mono (fun _ => star_comm) (fun _ x => x) (star_assoc (star_comm (star_mono (fun _ => star_comm) (fun _ x => x) s))))

theorem star_left {A B C : HP} {h : HL} (s : star A (star B C) h) : star B (star A C) h :=
  star_assoc' (star_mono (fun _ => star_comm) (fun _ x => x) (star_assoc s))

theorem star_emp {A : HP} {h : HL} : star emp A h ↔ A h := by
  constructor
  · rintro ⟨h1, h2, _, rfl, e, a⟩
    have : join h1 h2 = h2 := by funext b o; simp [join, e b o]
    rw [this]; exact a
  · intro a
    exact ⟨fun _ _ => none, h, fun _ _ => .inl rfl, by funext b o; simp [join], fun _ _ => rfl, a⟩

def pickL (i : Nat) (l : List HP) : List HP :=
  match i, l with
  | 0, l => l
  | _ + 1, [] => []
  | n + 1, A :: l => match pickL n l with
    | [] => [A]
    | B :: r => B :: A :: r

theorem sepL_pick : ∀ (i : Nat) (l : List HP) (h : HL), sepL l h → sepL (pickL i l) h
  | 0, l, h, s => by unfold pickL; exact s
  | _ + 1, [], h, s => s
  | n + 1, A :: l, h, s => by
    have s' : star A (sepL (pickL n l)) h := star_mono (fun _ x => x) (fun h x => sepL_pick n l h x) s
    unfold pickL
    cases hp : pickL n l with
    | nil => rw [hp] at s'; exact s'
    | cons B r => rw [hp] at s'; exact star_left s'

/-- The resources in another order: each index speaks of what is left. -/
def permL : List Nat → List HP → List HP
  | [], l => l
  | i :: is, l => match pickL i l with
    | [] => []
    | A :: r => A :: permL is r

theorem sepL_perm : ∀ (is : List Nat) (l : List HP) (h : HL), sepL l h → sepL (permL is l) h
  | [], _, _, s => s
  | i :: is, l, h, s => by
    have s' := sepL_pick i l h s
    unfold permL
    cases hp : pickL i l with
    | nil => rw [hp] at s'; exact s'
    | cons A r => rw [hp] at s'; exact star_mono (fun _ x => x) (fun h x => sepL_perm is r h x) s'

theorem sepL_append : ∀ (l r : List HP) (h : HL), sepL (l ++ r) h ↔ star (sepL l) (sepL r) h
  | [], r, h => (star_emp (A := sepL r)).symm
  | A :: l, r, h => by
    constructor
    · intro s
      exact star_assoc (star_mono (fun _ x => x) (fun h x => (sepL_append l r h).1 x) s)
    · intro s
      exact star_mono (fun _ x => x) (fun h x => (sepL_append l r h).2 x) (star_assoc' s)

def Res.ok (w : World) (b o : Nat) : Res → Prop
  | .cell v => w.cell? ⟨b, o, none⟩ = some v ∧ w.frozen? ⟨b, o, none⟩ = false
  | .ro v => w.cell? ⟨b, o, none⟩ = some v
  | .obj ob => o = 0 ∧ w.heap[b]? = some ob ∧ Obj.isCells ob = false

theorem Res.ok.lt {w : World} {b o : Nat} {r : Res} (h : r.ok w b o) : b < w.heap.size := by
  cases r with
  | cell v => exact World.block_lt_of_cell? _ (a := ⟨b, o, none⟩) h.1
  | ro v => exact World.block_lt_of_cell? _ (a := ⟨b, o, none⟩) h
  | obj ob =>
    rcases Nat.lt_or_ge b w.heap.size with h' | h'
    · exact h'
    · have := h.2.1; simp [Array.getElem?_eq_none h'] at this

theorem Res.ok.same {w w' : World} {b o : Nat} {r : Res} (h : r.ok w b o) (e : w'.heap[b]? = w.heap[b]?) : r.ok w' b o := by
  cases r with
  | cell v => exact ⟨(World.cell?_of_block (a := ⟨b, o, none⟩) e).trans h.1, (World.frozen?_of_block (a := ⟨b, o, none⟩) e).trans h.2⟩
  | ro v => exact (World.cell?_of_block (a := ⟨b, o, none⟩) e).trans h
  | obj ob => exact ⟨h.1, e.trans h.2.1, h.2.2⟩

/-- w grew out of W, and holds these resources. -/
def St (W w : World) (l : List HP) : Prop :=
  Below W.heap.size W w ∧ ∃ h, sepL l h ∧ ∀ b o (r : Res), h b o = some r → r.ok w b o ∧ (r.own = true → W.heap.size ≤ b)

section
variable {W w : World} {R l l' : List HP} {A B : HP}

theorem St.below (s : St W w l) : Below W.heap.size W w := s.1

theorem St.init (W : World) : St W W [] := ⟨Below.refl _ _, fun _ _ => none, fun _ _ => rfl, fun _ _ _ h => by cases h⟩

theorem St.base (s : St W w l) : W.heap.size ≤ w.heap.size := s.1.size

theorem St.of (s : St W w l) (i : ∀ h, sepL l h → sepL l' h) : St W w l' :=
  let ⟨b, h, a, k⟩ := s; ⟨b, h, i h a, k⟩

theorem St.pick (i : Nat) (s : St W w l) : St W w (pickL i l) := s.of (sepL_pick i l)

theorem St.perm (is : List Nat) (s : St W w l) : St W w (permL is l) := s.of (sepL_perm is l)

theorem St.imp (s : St W w (A :: R)) (i : ∀ h, A h → B h) : St W w (B :: R) := s.of fun _ => star_mono i fun _ x => x

theorem St.drop (s : St W w (A :: R)) : St W w R := by
  obtain ⟨b, h, ⟨h1, h2, c, rfl, _, d⟩, k⟩ := s
  refine ⟨b, h2, d, fun b o r hr => ?_⟩
  rcases c b o with g | g | ⟨v, g1, g2⟩
  · exact k b o r (by simp [join, g, hr])
  · rw [g] at hr; cases hr
  · rw [g2] at hr; cases hr; exact k b o _ (by simp [join, g1])

theorem St.dropN : ∀ (n : Nat) {l : List HP}, St W w l → St W w (l.drop n)
  | 0, _, s => s
  | _ + 1, [], s => s
  | n + 1, _ :: _, s => St.dropN n s.drop

theorem St.flat (l1 : List HP) : St W w (sepL l1 :: R) ↔ St W w (l1 ++ R) :=
  ⟨fun s => s.of fun h x => (sepL_append l1 R h).2 x, fun s => s.of fun h x => (sepL_append l1 R h).1 x⟩

theorem St.only (s : St W w (A :: R)) : St W w [A] := by
  have s' : St W w (sepL R :: [A]) := s.of fun h x => star_mono (fun _ y => y) (fun h y => star_comm (star_emp.2 y)) (star_comm x)
  exact s'.drop

theorem St.takeN (n : Nat) {l : List HP} (s : St W w l) : St W w (l.take n) := by
  have s1 : St W w (l.take n ++ l.drop n) := by rw [List.take_append_drop]; exact s
  have s2 := ((St.flat (l.take n)).2 s1).only
  have s3 := (St.flat (l.take n)).1 s2
  rwa [List.append_nil] at s3

/-- Just these resources, in this order: each index speaks of what is left. -/
theorem St.sel (is : List Nat) (s : St W w l) : St W w ((permL is l).take is.length) := (s.perm is).takeN _

theorem St.ex {α : Type} {F : α → HP} (s : St W w ((fun h => ∃ x, F x h) :: R)) : ∃ x, St W w (F x :: R) := by
  obtain ⟨b, h, ⟨h1, h2, c, e, ⟨x, a⟩, d⟩, k⟩ := s
  exact ⟨x, b, h, ⟨h1, h2, c, e, a, d⟩, k⟩

theorem St.pure {p : Prop} (s : St W w ((fun h => p ∧ A h) :: R)) : p ∧ St W w (A :: R) := by
  obtain ⟨b, h, ⟨h1, h2, c, e, ⟨x, a⟩, d⟩, k⟩ := s
  exact ⟨x, b, h, ⟨h1, h2, c, e, a, d⟩, k⟩

theorem St.empD (s : St W w R) : St W w (emp :: R) := s.of fun _ x => star_emp.2 x
theorem St.empE (s : St W w (emp :: R)) : St W w R := s.drop

theorem St.drew (s : St W w l) : St W w.drew l :=
  ⟨s.1.drew, s.2⟩

theorem St.drewN (s : St W w l) (k : Nat) : St W (w.drewN k) l := ⟨⟨s.1.os, s.1.tape, s.1.output, s.1.size, s.1.block⟩, s.2⟩

/-- A step of the world that touches what A owns alone. -/
theorem St.update {w' : World} (s : St W w (A :: R)) (hb : Below W.heap.size W w')
    (hu : ∀ h1, A h1 → (∀ b o (r : Res), h1 b o = some r → r.ok w b o ∧ (r.own = true → W.heap.size ≤ b)) →
      ∃ h1', B h1' ∧ (∀ b o (r : Res), h1' b o = some r → r.ok w' b o ∧ (r.own = true → W.heap.size ≤ b)) ∧
        (∀ b o, h1' b o ≠ none → w.heap.size ≤ b ∨ ∃ r, h1 b o = some r ∧ (r.own = true ∨ h1' b o = some r)) ∧
        (∀ b o (r : Res), b < w.heap.size → (∀ r' : Res, h1 b o = some r' → r'.own = false) → r.ok w b o → r.ok w' b o)) : St W w' (B :: R) := by
  obtain ⟨_, h, ⟨h1, h2, c, rfl, a, d⟩, k⟩ := s
  have k1 : ∀ b o (r : Res), h1 b o = some r → r.ok w b o ∧ (r.own = true → W.heap.size ≤ b) := fun b o r hr => k b o r (by simp [join, hr])
  have k2 : ∀ b o (r : Res), h2 b o = some r → r.ok w b o ∧ (r.own = true → W.heap.size ≤ b) := fun b o r hr => by
    rcases c b o with g | g | ⟨v, g1, g2⟩
    · exact k b o r (by simp [join, g, hr])
    · rw [g] at hr; cases hr
    · rw [g2] at hr; cases hr; exact k1 b o _ g1
  obtain ⟨h1', b1, b2, b3, b4⟩ := hu h1 a k1
  refine ⟨hb, join h1' h2, ⟨h1', h2, fun b o => ?_, rfl, b1, d⟩, fun b o r hr => ?_⟩
  · by_cases hn : h1' b o = none
    · exact .inl hn
    · rcases b3 b o hn with g | ⟨r, g1, g2⟩
      · refine .inr (.inl ?_)
        cases h2e : h2 b o with
        | none => rfl
        | some r => have := (k2 b o r h2e).1.lt; omega
      · rcases c b o with g | g | ⟨v, g, g'⟩
        · rw [g] at g1; cases g1
        · exact .inr (.inl g)
        · rw [g] at g1; cases g1
          rcases g2 with g2 | g2
          · cases g2
          · exact .inr (.inr ⟨v, g2, g'⟩)
  · cases e : h1' b o with
    | some r' => simp [join, e] at hr; subst hr; exact b2 b o r' e
    | none =>
      simp [join, e] at hr
      refine ⟨b4 b o r (k2 b o r hr).1.lt (fun r' hr' => ?_) (k2 b o r hr).1, (k2 b o r hr).2⟩
      rcases c b o with g | g | ⟨v, g1, g2⟩
      · rw [g] at hr'; cases hr'
      · rw [g] at hr; cases hr
      · rw [g1] at hr'; cases hr'; rfl

/-- A step of the world that only makes memory. -/
theorem St.grow {w' : World} (s : St W w R) (hb : Below W.heap.size W w') (hold : ∀ b, b < w.heap.size → w'.heap[b]? = w.heap[b]?) {h1' : HL} (b1 : B h1')
    (b2 : ∀ b o r, h1' b o = some r → r.ok w' b o ∧ (r.own = true → W.heap.size ≤ b)) (b3 : ∀ b o, h1' b o ≠ none → w.heap.size ≤ b) : St W w' (B :: R) :=
  St.update (A := emp) s.empD hb fun _ _ _ => ⟨h1', b1, b2, fun b o hn => .inl (b3 b o hn), fun b _ _ hlt _ hr => hr.same (hold b hlt)⟩

theorem St.grow0 {w' : World} (s : St W w R) (hb : Below W.heap.size W w') (hold : ∀ b, b < w.heap.size → w'.heap[b]? = w.heap[b]?) : St W w' R :=
  (St.grow (B := emp) s hb hold (h1' := fun _ _ => none) (fun _ _ => rfl) (fun _ _ _ h => by cases h) (fun _ _ h => absurd rfl h)).empE

end

/-! One cell, a row of cells. -/

def single (b o : Nat) (r : Res) : HL := fun b' o' => if b' = b ∧ o' = o then some r else none
def pt (b o : Nat) (v : Value) : HP := fun h => h = single b o (.cell v)
def rowH (b o : Nat) (f : Value → Res) (vs : List Value) : HL := fun b' o' => if b' = b ∧ o ≤ o' then (vs[o' - o]?).map f else none
/-- An owned row of cells. -/
def row (b o : Nat) (vs : List Value) : HP := fun h => h = rowH b o .cell vs
/-- A row of cells that is only read. -/
def rrow (b o : Nat) (vs : List Value) : HP := fun h => h = rowH b o .ro vs

theorem rowH_some {b o : Nat} {f : Value → Res} {vs : List Value} {b' o' : Nat} {r : Res} (h : rowH b o f vs b' o' = some r) :
    b' = b ∧ o ≤ o' ∧ ∃ v, vs[o' - o]? = some v ∧ r = f v := by
  unfold rowH at h
  split at h
  · rename_i hc
    simp at h
    obtain ⟨v, h1, h2⟩ := h
    exact ⟨hc.1, hc.2, v, h1, h2.symm⟩
  · cases h

theorem rowH_at {b o : Nat} {f : Value → Res} {vs : List Value} {i : Nat} {v : Value} (h : vs[i]? = some v) : rowH b o f vs b (o + i) = some (f v) := by
  unfold rowH
  rw [if_pos ⟨rfl, Nat.le_add_right _ _⟩, Nat.add_sub_cancel_left, h]
  rfl

theorem rowH_append (b o : Nat) (f : Value → Res) (xs ys : List Value) : rowH b o f (xs ++ ys) = join (rowH b o f xs) (rowH b (o + xs.length) f ys) := by
  funext b' o'
  unfold join rowH
  by_cases h : b' = b ∧ o ≤ o'
  · rw [if_pos h, if_pos h]
    by_cases h2 : o' - o < xs.length
    · rw [List.getElem?_append_left h2]
      simp [List.getElem?_eq_getElem h2]
    · rw [List.getElem?_append_right (by omega), List.getElem?_eq_none (l := xs) (by omega), if_pos ⟨h.1, by omega⟩]
      simp only [Option.map_none, Option.none_or]
      congr 2
      omega
  · rw [if_neg h, if_neg h, if_neg (by omega)]
    rfl

theorem rowH_compat (b o : Nat) (f : Value → Res) (xs ys : List Value) : compat (rowH b o f xs) (rowH b (o + xs.length) f ys) := fun b' o' => by
  cases h : rowH b o f xs b' o' with
  | none => exact .inl rfl
  | some r =>
    refine .inr (.inl ?_)
    obtain ⟨h1, h2, v, h3, _⟩ := rowH_some h
    have : o' - o < xs.length := by
      rcases Nat.lt_or_ge (o' - o) xs.length with g | g
      · exact g
      · rw [List.getElem?_eq_none g] at h3; cases h3
    unfold rowH
    rw [if_neg (by omega)]

theorem row_append (b o : Nat) (xs ys : List Value) (h : HL) : row b o (xs ++ ys) h ↔ sepL [row b o xs, row b (o + xs.length) ys] h := by
  constructor
  · intro e
    exact ⟨_, _, rowH_compat b o .cell xs ys, by rw [← rowH_append]; exact e, rfl, _, _, fun _ _ => .inr (.inl rfl), by funext b o; simp [join], rfl, fun _ _ => rfl⟩
  · rintro ⟨h1, h2, c, rfl, rfl, h3, h4, c', rfl, rfl, e⟩
    show _ = _
    rw [rowH_append]
    congr 1
    funext b o
    simp [join, e b o]

theorem pt_row (b o : Nat) (v : Value) : pt b o v = row b o [v] := by
  unfold pt row
  funext h
  have : single b o (.cell v) = rowH b o .cell [v] := by
    funext b' o'
    unfold single rowH
    by_cases h1 : b' = b ∧ o' = o
    · obtain ⟨rfl, rfl⟩ := h1; simp
    · rw [if_neg h1]
      by_cases h2 : b' = b ∧ o ≤ o'
      · rw [if_pos h2, List.getElem?_eq_none (by simp; omega)]; rfl
      · rw [if_neg h2]
  rw [this]

theorem row_nil (b o : Nat) (h : HL) : row b o [] h ↔ emp h := by
  constructor
  · rintro rfl; intro b o; unfold rowH; split <;> rfl
  · intro e; show _ = _; funext b' o'; rw [e]; unfold rowH; split <;> rfl

section
variable {W w : World} {R l l' : List HP} {A B : HP} {b o : Nat}

theorem St.front {h1} (s : St W w (A :: R)) (hA : ∀ h, A h → h = h1) : ∀ b o (r : Res), h1 b o = some r → r.ok w b o ∧ (r.own = true → W.heap.size ≤ b) := by
  obtain ⟨_, h, ⟨g1, g2, c, rfl, a, d⟩, k⟩ := s
  have := hA _ a
  subst this
  intro b o r hr
  exact k b o r (by simp [join, hr])

theorem St.rowCell {vs : List Value} (s : St W w (row b o vs :: R)) {i : Nat} {v : Value} (h : vs[i]? = some v) : w.cell? ⟨b, o + i, none⟩ = some v :=
  (s.front (fun _ h => h) b (o + i) _ (rowH_at h)).1.1

theorem St.rowFree {vs : List Value} (s : St W w (row b o vs :: R)) {i : Nat} (h : i < vs.length) : w.frozen? ⟨b, o + i, none⟩ = false :=
  (s.front (fun _ h => h) b (o + i) _ (rowH_at (List.getElem?_eq_getElem h))).1.2

theorem St.rrowCell {vs : List Value} (s : St W w (rrow b o vs :: R)) {i : Nat} {v : Value} (h : vs[i]? = some v) : w.cell? ⟨b, o + i, none⟩ = some v :=
  (s.front (fun _ h => h) b (o + i) _ (rowH_at h)).1

theorem St.rowNew {vs : List Value} (s : St W w (row b o vs :: R)) (h : 0 < vs.length) : W.heap.size ≤ b :=
  (s.front (fun _ h => h) b (o + 0) _ (rowH_at (List.getElem?_eq_getElem h))).2 rfl

theorem St.cell {v : Value} (s : St W w (pt b o v :: R)) : w.cell? ⟨b, o, none⟩ = some v := by
  rw [pt_row] at s; exact s.rowCell (i := 0) rfl
theorem St.free {v : Value} (s : St W w (pt b o v :: R)) : w.frozen? ⟨b, o, none⟩ = false := by
  rw [pt_row] at s; exact s.rowFree (i := 0) (by simp)
theorem St.new {v : Value} (s : St W w (pt b o v :: R)) : W.heap.size ≤ b := by
  rw [pt_row] at s; exact s.rowNew (by simp)

/-- Cells of an owned row are written. -/
theorem St.setCells {vs us : List Value} (s : St W w (row b o vs :: R)) (hl : us.length = vs.length) : St W (w.setCells b o us) (row b o us :: R) := by
  have hnew : vs ≠ [] → W.heap.size ≤ b := fun hn => s.rowNew (List.length_pos_iff.2 hn)
  have hcs : ∀ j, j < us.length → (w.cell? ⟨b, o + j, none⟩).isSome = true := fun j hj => by
    rw [s.rowCell (List.getElem?_eq_getElem (by omega : j < vs.length))]; rfl
  have hblk : ∀ k, k ≠ b ∨ vs = [] → (w.setCells b o us).heap[k]? = w.heap[k]? := by
    intro k hk
    rcases hk with hk | hk
    · clear hcs hl
      induction us generalizing w o with
      | nil => rfl
      | cons u us ih =>
        show ((w.setCell ⟨b, o, none⟩ u).setCells b (o + 1) us).heap[k]? = _
        have : ∀ (w : World) (o : Nat) (us : List Value), (w.setCells b o us).heap[k]? = w.heap[k]? := by
          intro w o us
          induction us generalizing w o with
          | nil => rfl
          | cons u us ih => exact (ih _ _).trans (Below.heap_setCell w ⟨b, o, none⟩ u k hk)
        rw [this, Below.heap_setCell w ⟨b, o, none⟩ u k hk]
    · subst hk
      have : us = [] := List.eq_nil_of_length_eq_zero (by simpa using hl)
      subst this
      rfl
  have hsize : (w.setCells b o us).heap.size = w.heap.size ∧ (w.setCells b o us).os = w.os ∧ (w.setCells b o us).tape = w.tape ∧ (w.setCells b o us).output = w.output := by
    have : ∀ (us : List Value) (w : World) (o : Nat), (w.setCells b o us).heap.size = w.heap.size ∧ (w.setCells b o us).os = w.os ∧ (w.setCells b o us).tape = w.tape ∧ (w.setCells b o us).output = w.output := by
      intro us
      induction us with
      | nil => intro w o; exact ⟨rfl, rfl, rfl, rfl⟩
      | cons u us ih => intro w o; obtain ⟨h1, h2, h3, h4⟩ := ih (w.setCell ⟨b, o, none⟩ u) (o + 1); exact ⟨h1.trans (by simp), h2, h3, h4⟩
    exact this us w o
  refine s.update (B := row b o us) ?_ ?_
  · refine ⟨hsize.2.1.trans s.1.os, hsize.2.2.1.trans s.1.tape, hsize.2.2.2.trans s.1.output, by rw [hsize.1]; exact s.1.size, fun k hk => ?_⟩
    by_cases hn : vs = []
    · exact (hblk k (.inr hn)).trans (s.1.block k hk)
    · exact (hblk k (.inl (by have := hnew hn; omega))).trans (s.1.block k hk)
  · rintro h1 rfl k1
    refine ⟨_, rfl, fun b' o' r hr => ?_, fun b' o' hn => ?_, fun b' o' r hlt hown hr => ?_⟩
    · obtain ⟨rfl, ho, v, hv, rfl⟩ := rowH_some hr
      have hi : o' - o < us.length := by
        rcases Nat.lt_or_ge (o' - o) us.length with g | g
        · exact g
        · rw [List.getElem?_eq_none g] at hv; cases hv
      obtain ⟨⟨_, k3⟩, k4⟩ := k1 b' (o + (o' - o)) _ (rowH_at (List.getElem?_eq_getElem (by omega : o' - o < vs.length)))
      rw [show o' = o + (o' - o) from by omega]
      refine ⟨⟨?_, ?_⟩, k4⟩
      · rw [World.cell?_setCells_in b' us o w hcs (o' - o) hi]
        rw [List.getElem?_eq_getElem hi] at hv; exact hv
      · rw [World.frozen?_setCells]; exact k3
    · obtain ⟨r, hr⟩ := Option.ne_none_iff_exists'.1 hn
      obtain ⟨rfl, ho, v, hv, rfl⟩ := rowH_some hr
      have hi : o' - o < us.length := by
        rcases Nat.lt_or_ge (o' - o) us.length with g | g
        · exact g
        · rw [List.getElem?_eq_none g] at hv; cases hv
      refine .inr ⟨.cell vs[o' - o], ?_, .inl rfl⟩
      have := rowH_at (b := b') (o := o) (f := .cell) (List.getElem?_eq_getElem (by omega : o' - o < vs.length))
      rwa [show o + (o' - o) = o' from by omega] at this
    · have hout : b' = b → o' < o ∨ o + us.length ≤ o' := fun hb => by
        subst hb
        rcases Nat.lt_or_ge o' o with g | g
        · exact .inl g
        · rcases Nat.lt_or_ge (o' - o) vs.length with g' | g'
          · have := rowH_at (b := b') (o := o) (f := .cell) (List.getElem?_eq_getElem g')
            rw [show o + (o' - o) = o' from by omega] at this
            exact absurd (hown _ this) (by simp [Res.own])
          · exact .inr (by omega)
      cases r with
      | cell v => exact ⟨(World.cell?_setCells_out b us o w ⟨b', o', none⟩ (fun h1 _ => hout h1)).trans hr.1, (World.frozen?_setCells b us o w _).trans hr.2⟩
      | ro v => exact (World.cell?_setCells_out b us o w ⟨b', o', none⟩ (fun h1 _ => hout h1)).trans hr
      | obj ob =>
        refine ⟨hr.1, ?_, hr.2.2⟩
        by_cases hv : vs = []
        · exact (hblk b' (.inr hv)).trans hr.2.1
        · refine (hblk b' (.inl fun hb => ?_)).trans hr.2.1
          subst hb
          have := (k1 b' (o + 0) _ (rowH_at (List.getElem?_eq_getElem (List.length_pos_iff.2 hv)))).1.1
          have hc := hr.2.2
          unfold World.cell? at this
          simp only [hr.2.1] at this
          cases ob <;> simp_all [Obj.isCells]

theorem St.set {v : Value} (s : St W w (pt b o v :: R)) (u : Value) : St W (w.setCell ⟨b, o, none⟩ u) (pt b o u :: R) := by
  rw [pt_row] at s ⊢
  exact s.setCells (us := [u]) rfl

/-- A row comes into being. -/
theorem St.grown {w' : World} {g : Nat} {cur : Array Value} {e : TypeId} (s : St W w R) (hg : w.grownBy w' none) (hge : w.heap.size ≤ g) (hh : w'.heap[g]? = some (.cells cur e (0, 0))) :
    St W w' (row g 0 cur.toList :: R) := by
  have hb : Below W.heap.size W w' := s.1.grown hg s.1.size (by simp)
  refine s.grow hb (fun b hlt => hg.block b hlt (by simp)) (h1' := rowH g 0 .cell cur.toList) rfl (fun b o r hr => ?_) (fun b o hn => ?_)
  · obtain ⟨rfl, ho, v, hv, rfl⟩ := rowH_some hr
    have := s.1.size
    refine ⟨⟨?_, ?_⟩, fun _ => by omega⟩
    · simp [World.cell?, hh]; simpa using hv
    · simp [World.frozen?, hh]
  · obtain ⟨r, hr⟩ := Option.ne_none_iff_exists'.1 hn
    obtain ⟨rfl, _⟩ := rowH_some hr
    exact hge

theorem St.alloc (s : St W w R) (cs : Array Value) (e : TypeId) : St W (w.alloc (.cells cs e)) (row w.heap.size 0 cs.toList :: R) :=
  s.grown (World.grownBy_alloc w _ none) (Nat.le_refl _) (heap_alloc_new w _)

theorem St.row1 {v : Value} (s : St W w (row b o [v] :: R)) : St W w (pt b o v :: R) := by rw [pt_row]; exact s
theorem St.rowCons {v : Value} {vs : List Value} : St W w (row b o (v :: vs) :: R) ↔ St W w (pt b o v :: row b (o + 1) vs :: R) := by
  rw [pt_row]
  constructor
  · intro s
    exact (St.flat [row b o [v], row b (o + 1) vs]).1 (s.imp fun h x => (row_append b o [v] vs h).1 x)
  · intro s
    exact ((St.flat [row b o [v], row b (o + 1) vs]).2 s).imp fun h x => (row_append b o [v] vs h).2 x
theorem St.rowAppend {xs ys : List Value} : St W w (row b o (xs ++ ys) :: R) ↔ St W w (row b o xs :: row b (o + xs.length) ys :: R) := by
  constructor
  · intro s
    exact (St.flat [row b o xs, row b (o + xs.length) ys]).1 (s.imp fun h x => (row_append b o xs ys h).1 x)
  · intro s
    exact ((St.flat [row b o xs, row b (o + xs.length) ys]).2 s).imp fun h x => (row_append b o xs ys h).2 x
/-- One cell of an owned row is written. -/
theorem St.rowSet {vs : List Value} (s : St W w (row b o vs :: R)) {i : Nat} (hi : i < vs.length) (v : Value) : St W (w.setCell ⟨b, o + i, none⟩ v) (row b o (vs.set i v) :: R) := by
  have e1 : vs = vs.take i ++ (vs[i] :: vs.drop (i + 1)) := by rw [← List.drop_eq_getElem_cons, List.take_append_drop]
  have s1 : St W w (row b o (vs.take i ++ (vs[i] :: vs.drop (i + 1))) :: R) := by rw [← e1]; exact s
  have s2 : St W w (row b (o + (vs.take i).length) (vs[i] :: vs.drop (i + 1)) :: row b o (vs.take i) :: R) := (St.rowAppend.1 s1).pick 1
  rw [List.length_take, Nat.min_eq_left (Nat.le_of_lt hi)] at s2
  have s3 := (St.rowCons.1 s2).set v
  have s5 : St W (w.setCell ⟨b, o + i, none⟩ v) (row b o (vs.take i) :: row b (o + i) (v :: vs.drop (i + 1)) :: R) := (St.rowCons.2 s3).pick 1
  have e2 : vs.set i v = vs.take i ++ (v :: vs.drop (i + 1)) := by rw [List.set_eq_take_append_cons_drop, if_pos hi]
  rw [e2]
  refine St.rowAppend.2 ?_
  rw [List.length_take, Nat.min_eq_left (Nat.le_of_lt hi)]
  exact s5

theorem St.rowNil : St W w R ↔ St W w (row b o [] :: R) :=
  ⟨fun s => s.empD.imp fun h x => (row_nil b o h).2 x, fun s => s.drop⟩

end

end Go.Qd
