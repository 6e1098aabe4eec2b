/- Lib: several texts, joined.
  A small logic of ownership over the worlds of the model: a list of resources (cells that are owned, cells that are only read, whole objects), of which no two share a cell that is written.
  'St W w l': w grew out of W, nothing that W had has changed, and w holds the resources l, all owned ones in memory that is newer than W.
-/
import Derived.WalkKit
import Derived.ArgAppend
import Derived.Laws.IdiomCopy
import Derived.Deep.QuietTactic
import Derived.ProofKit
import Derived.OpenShut
import Derived.Lib.AppendZerosOnto
import Derived.Lib.Overlaps
import Derived.Laws.Rows
import Derived.BigFrame
import Derived.BigQuiet
import Derived.ChangeKeysEq
import Derived.StillTailTactics
namespace Go.Qd
open Go.RowKit

/-- A fact that the walk's simp shall not take for a rule: 'H.out' gives it back. -/
theorem hid {p : Prop} (h : p) : Hid p := h

inductive Res where
  | cell (v : Value)
  | ro (v : Value)
  | obj (o : Obj)

def Res.own : Res → Bool
  | .ro _ => false
  | _ => true

def Obj.isCells : Obj → Bool
  | .cells .. => true
  | _ => false

abbrev HL := Nat → Nat → Option Res
abbrev HP := HL → Prop

def compat (h k : HL) : Prop := ∀ b o, h b o = none ∨ k b o = none ∨ ∃ v, h b o = some (.ro v) ∧ k b o = some (.ro v)
def join (h k : HL) : HL := fun b o => (h b o).or (k b o)
def star (A B : HP) : HP := fun h => ∃ h1 h2, compat h1 h2 ∧ h = join h1 h2 ∧ A h1 ∧ B h2
def emp : HP := fun h => ∀ b o, h b o = none
def sepL : List HP → HP
  | [] => emp
  | A :: l => star A (sepL l)

theorem compat.symm {h k : HL} (c : compat h k) : compat k h := fun b o => by
  rcases c b o with h1 | h1 | ⟨v, h1, h2⟩
  · exact .inr (.inl h1)
  · exact .inl h1
  · exact .inr (.inr ⟨v, h2, h1⟩)

theorem join_comm {h k : HL} (c : compat h k) : join h k = join k h := by
  funext b o
  unfold join
  rcases c b o with h1 | h1 | ⟨v, h1, h2⟩
  · simp [h1]
  · simp [h1]
  · simp [h1, h2]

theorem join_assoc (h k l : HL) : join (join h k) l = join h (join k l) := by
  funext b o
  unfold join
  cases h b o <;> simp

theorem star_comm {A B : HP} {h : HL} (s : star A B h) : star B A h := by
  obtain ⟨h1, h2, c, rfl, a, b⟩ := s
  exact ⟨h2, h1, c.symm, join_comm c, b, a⟩

theorem compat_join_left {h k l : HL} (c : compat h (join k l)) : compat h k := fun b o => by
  rcases c b o with h1 | h1 | ⟨v, h1, h2⟩
  · exact .inl h1
  · unfold join at h1
    cases hk : k b o <;> simp [hk] at h1
    exact .inr (.inl rfl)
  · unfold join at h2
    cases hk : k b o with
    | none => exact .inr (.inl rfl)
    | some r => simp [hk] at h2; exact .inr (.inr ⟨v, h1, by rw [h2]⟩)

theorem compat_join_right {h k l : HL} (ckl : compat k l) (c : compat h (join k l)) : compat h l := by
  rw [join_comm ckl] at c
  exact compat_join_left c

theorem compat_join {h k l : HL} (c1 : compat h l) (c2 : compat k l) : compat (join h k) l := fun b o => by
  unfold join
  rcases c2 b o with h1 | h1 | ⟨v, h1, h2⟩
  · rcases c1 b o with g1 | g1 | ⟨u, g1, g2⟩
    · exact .inl (by simp [h1, g1])
    · exact .inr (.inl g1)
    · exact .inr (.inr ⟨u, by simp [g1], g2⟩)
  · exact .inr (.inl h1)
  · rcases c1 b o with g1 | g1 | ⟨u, g1, g2⟩
    · exact .inr (.inr ⟨v, by simp [g1, h1], h2⟩)
    · exact .inr (.inl g1)
    · exact .inr (.inr ⟨u, by simp [g1], g2⟩)

theorem star_assoc {A B C : HP} {h : HL} (s : star A (star B C) h) : star (star A B) C h := by
  obtain ⟨h1, h23, c, rfl, a, h2, h3, c', rfl, b, d⟩ := s
  exact ⟨join h1 h2, h3, compat_join (compat_join_right c' c) c', (join_assoc _ _ _).symm, ⟨h1, h2, compat_join_left c, rfl, a, b⟩, d⟩

theorem star_mono {A A' B B' : HP} {h : HL} (ha : ∀ h, A h → A' h) (hb : ∀ h, B h → B' h) (s : star A B h) : star A' B' h := by
  obtain ⟨h1, h2, c, e, a, b⟩ := s
  exact ⟨h1, h2, c, e, ha _ a, hb _ b⟩

theorem star_assoc' {A B C : HP} {h : HL} (s : star (star A B) C h) : star A (star B C) h :=
  star_comm (star_mono (fun _ => star_comm) (fun _ x => x) (star_assoc (star_comm (star_mono (fun _ => star_comm) (fun _ x => x) s))))

theorem star_left {A B C : HP} {h : HL} (s : star A (star B C) h) : star B (star A C) h :=
  star_assoc' (star_mono (fun _ => star_comm) (fun _ x => x) (star_assoc s))

theorem star_emp {A : HP} {h : HL} : star emp A h ↔ A h := by
  constructor
  · rintro ⟨h1, h2, _, rfl, e, a⟩
    have : join h1 h2 = h2 := by funext b o; simp [join, e b o]
    rw [this]; exact a
  · intro a
    exact ⟨fun _ _ => none, h, fun _ _ => .inl rfl, by funext b o; simp [join], fun _ _ => rfl, a⟩

def pickL (i : Nat) (l : List HP) : List HP :=
  match i, l with
  | 0, l => l
  | _ + 1, [] => []
  | n + 1, A :: l => match pickL n l with
    | [] => [A]
    | B :: r => B :: A :: r

theorem sepL_pick : ∀ (i : Nat) (l : List HP) (h : HL), sepL l h → sepL (pickL i l) h
  | 0, l, h, s => by unfold pickL; exact s
  | _ + 1, [], h, s => s
  | n + 1, A :: l, h, s => by
    have s' : star A (sepL (pickL n l)) h := star_mono (fun _ x => x) (fun h x => sepL_pick n l h x) s
    unfold pickL
    cases hp : pickL n l with
    | nil => rw [hp] at s'; exact s'
    | cons B r => rw [hp] at s'; exact star_left s'

/-- The resources in another order: each index speaks of what is left. -/
def permL : List Nat → List HP → List HP
  | [], l => l
  | i :: is, l => match pickL i l with
    | [] => []
    | A :: r => A :: permL is r

theorem sepL_perm : ∀ (is : List Nat) (l : List HP) (h : HL), sepL l h → sepL (permL is l) h
  | [], _, _, s => s
  | i :: is, l, h, s => by
    have s' := sepL_pick i l h s
    unfold permL
    cases hp : pickL i l with
    | nil => rw [hp] at s'; exact s'
    | cons A r => rw [hp] at s'; exact star_mono (fun _ x => x) (fun h x => sepL_perm is r h x) s'

theorem sepL_append : ∀ (l r : List HP) (h : HL), sepL (l ++ r) h ↔ star (sepL l) (sepL r) h
  | [], r, h => (star_emp (A := sepL r)).symm
  | A :: l, r, h => by
    constructor
    · intro s
      exact star_assoc (star_mono (fun _ x => x) (fun h x => (sepL_append l r h).1 x) s)
    · intro s
      exact star_mono (fun _ x => x) (fun h x => (sepL_append l r h).2 x) (star_assoc' s)

def Res.ok (w : World) (b o : Nat) : Res → Prop
  | .cell v => w.cell? ⟨b, o, none⟩ = some v ∧ w.frozen? ⟨b, o, none⟩ = false
  | .ro v => w.cell? ⟨b, o, none⟩ = some v
  | .obj ob => o = 0 ∧ w.heap[b]? = some ob ∧ Obj.isCells ob = false

theorem Res.ok.lt {w : World} {b o : Nat} {r : Res} (h : r.ok w b o) : b < w.heap.size := by
  cases r with
  | cell v => exact World.block_lt_of_cell? _ (a := ⟨b, o, none⟩) h.1
  | ro v => exact World.block_lt_of_cell? _ (a := ⟨b, o, none⟩) h
  | obj ob =>
    rcases Nat.lt_or_ge b w.heap.size with h' | h'
    · exact h'
    · have := h.2.1; simp [Array.getElem?_eq_none h'] at this

theorem Res.ok.same {w w' : World} {b o : Nat} {r : Res} (h : r.ok w b o) (e : w'.heap[b]? = w.heap[b]?) : r.ok w' b o := by
  cases r with
  | cell v => exact ⟨(World.cell?_of_block (a := ⟨b, o, none⟩) e).trans h.1, (World.frozen?_of_block (a := ⟨b, o, none⟩) e).trans h.2⟩
  | ro v => exact (World.cell?_of_block (a := ⟨b, o, none⟩) e).trans h
  | obj ob => exact ⟨h.1, e.trans h.2.1, h.2.2⟩

/-- w grew out of W, and holds these resources. -/
def St (W w : World) (l : List HP) : Prop :=
  Below W.heap.size W w ∧ ∃ h, sepL l h ∧ ∀ b o (r : Res), h b o = some r → r.ok w b o ∧ (r.own = true → W.heap.size ≤ b)

section
variable {W w : World} {R l l' : List HP} {A B : HP}

theorem St.below (s : St W w l) : Below W.heap.size W w := s.1

theorem St.init (W : World) : St W W [] := ⟨Below.refl _ _, fun _ _ => none, fun _ _ => rfl, fun _ _ _ h => by cases h⟩

theorem St.base (s : St W w l) : W.heap.size ≤ w.heap.size := s.1.size

theorem St.of (s : St W w l) (i : ∀ h, sepL l h → sepL l' h) : St W w l' :=
  let ⟨b, h, a, k⟩ := s; ⟨b, h, i h a, k⟩

theorem St.pick (i : Nat) (s : St W w l) : St W w (pickL i l) := s.of (sepL_pick i l)

theorem St.perm (is : List Nat) (s : St W w l) : St W w (permL is l) := s.of (sepL_perm is l)

theorem St.imp (s : St W w (A :: R)) (i : ∀ h, A h → B h) : St W w (B :: R) := s.of fun _ => star_mono i fun _ x => x

theorem St.drop (s : St W w (A :: R)) : St W w R := by
  obtain ⟨b, h, ⟨h1, h2, c, rfl, _, d⟩, k⟩ := s
  refine ⟨b, h2, d, fun b o r hr => ?_⟩
  rcases c b o with g | g | ⟨v, g1, g2⟩
  · exact k b o r (by simp [join, g, hr])
  · rw [g] at hr; cases hr
  · rw [g2] at hr; cases hr; exact k b o _ (by simp [join, g1])

theorem St.dropN : ∀ (n : Nat) {l : List HP}, St W w l → St W w (l.drop n)
  | 0, _, s => s
  | _ + 1, [], s => s
  | n + 1, _ :: _, s => St.dropN n s.drop

theorem St.flat (l1 : List HP) : St W w (sepL l1 :: R) ↔ St W w (l1 ++ R) :=
  ⟨fun s => s.of fun h x => (sepL_append l1 R h).2 x, fun s => s.of fun h x => (sepL_append l1 R h).1 x⟩

theorem St.only (s : St W w (A :: R)) : St W w [A] := by
  have s' : St W w (sepL R :: [A]) := s.of fun h x => star_mono (fun _ y => y) (fun h y => star_comm (star_emp.2 y)) (star_comm x)
  exact s'.drop

theorem St.ex {α : Type} {F : α → HP} (s : St W w ((fun h => ∃ x, F x h) :: R)) : ∃ x, St W w (F x :: R) := by
  obtain ⟨b, h, ⟨h1, h2, c, e, ⟨x, a⟩, d⟩, k⟩ := s
  exact ⟨x, b, h, ⟨h1, h2, c, e, a, d⟩, k⟩

theorem St.pure {p : Prop} (s : St W w ((fun h => p ∧ A h) :: R)) : p ∧ St W w (A :: R) := by
  obtain ⟨b, h, ⟨h1, h2, c, e, ⟨x, a⟩, d⟩, k⟩ := s
  exact ⟨x, b, h, ⟨h1, h2, c, e, a, d⟩, k⟩

theorem St.empD (s : St W w R) : St W w (emp :: R) := s.of fun _ x => star_emp.2 x
theorem St.empE (s : St W w (emp :: R)) : St W w R := s.drop

theorem St.drew (s : St W w l) : St W w.drew l :=
  ⟨s.1.drew, s.2⟩

theorem St.drewN (s : St W w l) (k : Nat) : St W (w.drewN k) l := ⟨⟨s.1.os, s.1.tape, s.1.output, s.1.size, s.1.block⟩, s.2⟩

/-- A step of the world that touches what A owns alone. -/
theorem St.update {w' : World} (s : St W w (A :: R)) (hb : Below W.heap.size W w')
    (hu : ∀ h1, A h1 → (∀ b o (r : Res), h1 b o = some r → r.ok w b o ∧ (r.own = true → W.heap.size ≤ b)) →
      ∃ h1', B h1' ∧ (∀ b o (r : Res), h1' b o = some r → r.ok w' b o ∧ (r.own = true → W.heap.size ≤ b)) ∧
        (∀ b o, h1' b o ≠ none → w.heap.size ≤ b ∨ ∃ r, h1 b o = some r ∧ (r.own = true ∨ h1' b o = some r)) ∧
        (∀ b o (r : Res), b < w.heap.size → (∀ r' : Res, h1 b o = some r' → r'.own = false) → r.ok w b o → r.ok w' b o)) : St W w' (B :: R) := by
  obtain ⟨_, h, ⟨h1, h2, c, rfl, a, d⟩, k⟩ := s
  have k1 : ∀ b o (r : Res), h1 b o = some r → r.ok w b o ∧ (r.own = true → W.heap.size ≤ b) := fun b o r hr => k b o r (by simp [join, hr])
  have k2 : ∀ b o (r : Res), h2 b o = some r → r.ok w b o ∧ (r.own = true → W.heap.size ≤ b) := fun b o r hr => by
    rcases c b o with g | g | ⟨v, g1, g2⟩
    · exact k b o r (by simp [join, g, hr])
    · rw [g] at hr; cases hr
    · rw [g2] at hr; cases hr; exact k1 b o _ g1
  obtain ⟨h1', b1, b2, b3, b4⟩ := hu h1 a k1
  refine ⟨hb, join h1' h2, ⟨h1', h2, fun b o => ?_, rfl, b1, d⟩, fun b o r hr => ?_⟩
  · by_cases hn : h1' b o = none
    · exact .inl hn
    · rcases b3 b o hn with g | ⟨r, g1, g2⟩
      · refine .inr (.inl ?_)
        cases h2e : h2 b o with
        | none => rfl
        | some r => have := (k2 b o r h2e).1.lt; omega
      · rcases c b o with g | g | ⟨v, g, g'⟩
        · rw [g] at g1; cases g1
        · exact .inr (.inl g)
        · rw [g] at g1; cases g1
          rcases g2 with g2 | g2
          · cases g2
          · exact .inr (.inr ⟨v, g2, g'⟩)
  · cases e : h1' b o with
    | some r' => simp [join, e] at hr; subst hr; exact b2 b o r' e
    | none =>
      simp [join, e] at hr
      refine ⟨b4 b o r (k2 b o r hr).1.lt (fun r' hr' => ?_) (k2 b o r hr).1, (k2 b o r hr).2⟩
      rcases c b o with g | g | ⟨v, g1, g2⟩
      · rw [g] at hr'; cases hr'
      · rw [g] at hr; cases hr
      · rw [g1] at hr'; cases hr'; rfl

/-- A step of the world that only makes memory. -/
theorem St.grow {w' : World} (s : St W w R) (hb : Below W.heap.size W w') (hold : ∀ b, b < w.heap.size → w'.heap[b]? = w.heap[b]?) {h1' : HL} (b1 : B h1')
    (b2 : ∀ b o r, h1' b o = some r → r.ok w' b o ∧ (r.own = true → W.heap.size ≤ b)) (b3 : ∀ b o, h1' b o ≠ none → w.heap.size ≤ b) : St W w' (B :: R) :=
  St.update (A := emp) s.empD hb fun _ _ _ => ⟨h1', b1, b2, fun b o hn => .inl (b3 b o hn), fun b _ _ hlt _ hr => hr.same (hold b hlt)⟩

end

/-! One cell, a row of cells. -/

def single (b o : Nat) (r : Res) : HL := fun b' o' => if b' = b ∧ o' = o then some r else none
def pt (b o : Nat) (v : Value) : HP := fun h => h = single b o (.cell v)
def rowH (b o : Nat) (f : Value → Res) (vs : List Value) : HL := fun b' o' => if b' = b ∧ o ≤ o' then (vs[o' - o]?).map f else none
/-- An owned row of cells. -/
def row (b o : Nat) (vs : List Value) : HP := fun h => h = rowH b o .cell vs
theorem rowH_some {b o : Nat} {f : Value → Res} {vs : List Value} {b' o' : Nat} {r : Res} (h : rowH b o f vs b' o' = some r) :
    b' = b ∧ o ≤ o' ∧ ∃ v, vs[o' - o]? = some v ∧ r = f v := by
  unfold rowH at h
  split at h
  · rename_i hc
    simp at h
    obtain ⟨v, h1, h2⟩ := h
    exact ⟨hc.1, hc.2, v, h1, h2.symm⟩
  · cases h

theorem rowH_at {b o : Nat} {f : Value → Res} {vs : List Value} {i : Nat} {v : Value} (h : vs[i]? = some v) : rowH b o f vs b (o + i) = some (f v) := by
  unfold rowH
  rw [if_pos ⟨rfl, Nat.le_add_right _ _⟩, Nat.add_sub_cancel_left, h]
  rfl

theorem rowH_append (b o : Nat) (f : Value → Res) (xs ys : List Value) : rowH b o f (xs ++ ys) = join (rowH b o f xs) (rowH b (o + xs.length) f ys) := by
  funext b' o'
  unfold join rowH
  by_cases h : b' = b ∧ o ≤ o'
  · rw [if_pos h, if_pos h]
    by_cases h2 : o' - o < xs.length
    · rw [List.getElem?_append_left h2]
      simp [List.getElem?_eq_getElem h2]
    · rw [List.getElem?_append_right (by omega), List.getElem?_eq_none (l := xs) (by omega), if_pos ⟨h.1, by omega⟩]
      simp only [Option.map_none, Option.none_or]
      congr 2
      omega
  · rw [if_neg h, if_neg h, if_neg (by omega)]
    rfl

theorem rowH_compat (b o : Nat) (f : Value → Res) (xs ys : List Value) : compat (rowH b o f xs) (rowH b (o + xs.length) f ys) := fun b' o' => by
  cases h : rowH b o f xs b' o' with
  | none => exact .inl rfl
  | some r =>
    refine .inr (.inl ?_)
    obtain ⟨h1, h2, v, h3, _⟩ := rowH_some h
    have : o' - o < xs.length := by
      rcases Nat.lt_or_ge (o' - o) xs.length with g | g
      · exact g
      · rw [List.getElem?_eq_none g] at h3; cases h3
    unfold rowH
    rw [if_neg (by omega)]

theorem row_append (b o : Nat) (xs ys : List Value) (h : HL) : row b o (xs ++ ys) h ↔ sepL [row b o xs, row b (o + xs.length) ys] h := by
  constructor
  · intro e
    exact ⟨_, _, rowH_compat b o .cell xs ys, by rw [← rowH_append]; exact e, rfl, _, _, fun _ _ => .inr (.inl rfl), by funext b o; simp [join], rfl, fun _ _ => rfl⟩
  · rintro ⟨h1, h2, c, rfl, rfl, h3, h4, c', rfl, rfl, e⟩
    show _ = _
    rw [rowH_append]
    congr 1
    funext b o
    simp [join, e b o]

theorem pt_row (b o : Nat) (v : Value) : pt b o v = row b o [v] := by
  unfold pt row
  funext h
  have : single b o (.cell v) = rowH b o .cell [v] := by
    funext b' o'
    unfold single rowH
    by_cases h1 : b' = b ∧ o' = o
    · obtain ⟨rfl, rfl⟩ := h1; simp
    · rw [if_neg h1]
      by_cases h2 : b' = b ∧ o ≤ o'
      · rw [if_pos h2, List.getElem?_eq_none (by simp; omega)]; rfl
      · rw [if_neg h2]
  rw [this]

theorem row_nil (b o : Nat) (h : HL) : row b o [] h ↔ emp h := by
  constructor
  · rintro rfl; intro b o; unfold rowH; split <;> rfl
  · intro e; show _ = _; funext b' o'; rw [e]; unfold rowH; split <;> rfl

section
variable {W w : World} {R l l' : List HP} {A B : HP} {b o : Nat}

theorem St.front {h1} (s : St W w (A :: R)) (hA : ∀ h, A h → h = h1) : ∀ b o (r : Res), h1 b o = some r → r.ok w b o ∧ (r.own = true → W.heap.size ≤ b) := by
  obtain ⟨_, h, ⟨g1, g2, c, rfl, a, d⟩, k⟩ := s
  have := hA _ a
  subst this
  intro b o r hr
  exact k b o r (by simp [join, hr])

theorem St.rowCell {vs : List Value} (s : St W w (row b o vs :: R)) {i : Nat} {v : Value} (h : vs[i]? = some v) : w.cell? ⟨b, o + i, none⟩ = some v :=
  (s.front (fun _ h => h) b (o + i) _ (rowH_at h)).1.1

theorem St.rowFree {vs : List Value} (s : St W w (row b o vs :: R)) {i : Nat} (h : i < vs.length) : w.frozen? ⟨b, o + i, none⟩ = false :=
  (s.front (fun _ h => h) b (o + i) _ (rowH_at (List.getElem?_eq_getElem h))).1.2

theorem St.rowNew {vs : List Value} (s : St W w (row b o vs :: R)) (h : 0 < vs.length) : W.heap.size ≤ b :=
  (s.front (fun _ h => h) b (o + 0) _ (rowH_at (List.getElem?_eq_getElem h))).2 rfl

theorem St.cell {v : Value} (s : St W w (pt b o v :: R)) : w.cell? ⟨b, o, none⟩ = some v := by
  rw [pt_row] at s; exact s.rowCell (i := 0) rfl
theorem St.free {v : Value} (s : St W w (pt b o v :: R)) : w.frozen? ⟨b, o, none⟩ = false := by
  rw [pt_row] at s; exact s.rowFree (i := 0) (by simp)
theorem St.new {v : Value} (s : St W w (pt b o v :: R)) : W.heap.size ≤ b := by
  rw [pt_row] at s; exact s.rowNew (by simp)

/-- Cells of an owned row are written. -/
theorem St.setCells {vs us : List Value} (s : St W w (row b o vs :: R)) (hl : us.length = vs.length) : St W (w.setCells b o us) (row b o us :: R) := by
  have hnew : vs ≠ [] → W.heap.size ≤ b := fun hn => s.rowNew (List.length_pos_iff.2 hn)
  have hcs : ∀ j, j < us.length → (w.cell? ⟨b, o + j, none⟩).isSome = true := fun j hj => by
    rw [s.rowCell (List.getElem?_eq_getElem (by omega : j < vs.length))]; rfl
  have hblk : ∀ k, k ≠ b ∨ vs = [] → (w.setCells b o us).heap[k]? = w.heap[k]? := by
    intro k hk
    rcases hk with hk | hk
    · clear hcs hl
      induction us generalizing w o with
      | nil => rfl
      | cons u us ih =>
        show ((w.setCell ⟨b, o, none⟩ u).setCells b (o + 1) us).heap[k]? = _
        have : ∀ (w : World) (o : Nat) (us : List Value), (w.setCells b o us).heap[k]? = w.heap[k]? := by
          intro w o us
          induction us generalizing w o with
          | nil => rfl
          | cons u us ih => exact (ih _ _).trans (Below.heap_setCell w ⟨b, o, none⟩ u k hk)
        rw [this, Below.heap_setCell w ⟨b, o, none⟩ u k hk]
    · subst hk
      have : us = [] := List.eq_nil_of_length_eq_zero (by simpa using hl)
      subst this
      rfl
  have hsize : (w.setCells b o us).heap.size = w.heap.size ∧ (w.setCells b o us).os = w.os ∧ (w.setCells b o us).tape = w.tape ∧ (w.setCells b o us).output = w.output := by
    have : ∀ (us : List Value) (w : World) (o : Nat), (w.setCells b o us).heap.size = w.heap.size ∧ (w.setCells b o us).os = w.os ∧ (w.setCells b o us).tape = w.tape ∧ (w.setCells b o us).output = w.output := by
      intro us
      induction us with
      | nil => intro w o; exact ⟨rfl, rfl, rfl, rfl⟩
      | cons u us ih => intro w o; obtain ⟨h1, h2, h3, h4⟩ := ih (w.setCell ⟨b, o, none⟩ u) (o + 1); exact ⟨h1.trans (by simp), h2, h3, h4⟩
    exact this us w o
  refine s.update (B := row b o us) ?_ ?_
  · refine ⟨hsize.2.1.trans s.1.os, hsize.2.2.1.trans s.1.tape, hsize.2.2.2.trans s.1.output, by rw [hsize.1]; exact s.1.size, fun k hk => ?_⟩
    by_cases hn : vs = []
    · exact (hblk k (.inr hn)).trans (s.1.block k hk)
    · exact (hblk k (.inl (by have := hnew hn; omega))).trans (s.1.block k hk)
  · rintro h1 rfl k1
    refine ⟨_, rfl, fun b' o' r hr => ?_, fun b' o' hn => ?_, fun b' o' r hlt hown hr => ?_⟩
    · obtain ⟨rfl, ho, v, hv, rfl⟩ := rowH_some hr
      have hi : o' - o < us.length := by
        rcases Nat.lt_or_ge (o' - o) us.length with g | g
        · exact g
        · rw [List.getElem?_eq_none g] at hv; cases hv
      obtain ⟨⟨_, k3⟩, k4⟩ := k1 b' (o + (o' - o)) _ (rowH_at (List.getElem?_eq_getElem (by omega : o' - o < vs.length)))
      rw [show o' = o + (o' - o) from by omega]
      refine ⟨⟨?_, ?_⟩, k4⟩
      · rw [World.cell?_setCells_in b' us o w hcs (o' - o) hi]
        rw [List.getElem?_eq_getElem hi] at hv; exact hv
      · rw [World.frozen?_setCells]; exact k3
    · obtain ⟨r, hr⟩ := Option.ne_none_iff_exists'.1 hn
      obtain ⟨rfl, ho, v, hv, rfl⟩ := rowH_some hr
      have hi : o' - o < us.length := by
        rcases Nat.lt_or_ge (o' - o) us.length with g | g
        · exact g
        · rw [List.getElem?_eq_none g] at hv; cases hv
      refine .inr ⟨.cell vs[o' - o], ?_, .inl rfl⟩
      have := rowH_at (b := b') (o := o) (f := .cell) (List.getElem?_eq_getElem (by omega : o' - o < vs.length))
      rwa [show o + (o' - o) = o' from by omega] at this
    · have hout : b' = b → o' < o ∨ o + us.length ≤ o' := fun hb => by
        subst hb
        rcases Nat.lt_or_ge o' o with g | g
        · exact .inl g
        · rcases Nat.lt_or_ge (o' - o) vs.length with g' | g'
          · have := rowH_at (b := b') (o := o) (f := .cell) (List.getElem?_eq_getElem g')
            rw [show o + (o' - o) = o' from by omega] at this
            exact absurd (hown _ this) (by simp [Res.own])
          · exact .inr (by omega)
      cases r with
      | cell v => exact ⟨(World.cell?_setCells_out b us o w ⟨b', o', none⟩ (fun h1 _ => hout h1)).trans hr.1, (World.frozen?_setCells b us o w _).trans hr.2⟩
      | ro v => exact (World.cell?_setCells_out b us o w ⟨b', o', none⟩ (fun h1 _ => hout h1)).trans hr
      | obj ob =>
        refine ⟨hr.1, ?_, hr.2.2⟩
        by_cases hv : vs = []
        · exact (hblk b' (.inr hv)).trans hr.2.1
        · refine (hblk b' (.inl fun hb => ?_)).trans hr.2.1
          subst hb
          have := (k1 b' (o + 0) _ (rowH_at (List.getElem?_eq_getElem (List.length_pos_iff.2 hv)))).1.1
          have hc := hr.2.2
          unfold World.cell? at this
          simp only [hr.2.1] at this
          cases ob <;> simp_all [Obj.isCells]

theorem St.set {v : Value} (s : St W w (pt b o v :: R)) (u : Value) : St W (w.setCell ⟨b, o, none⟩ u) (pt b o u :: R) := by
  rw [pt_row] at s ⊢
  exact s.setCells (us := [u]) rfl

/-- A row comes into being. -/
theorem St.grown {w' : World} {g : Nat} {cur : Array Value} {e : TypeId} (s : St W w R) (hg : w.grownBy w' none) (hge : w.heap.size ≤ g) (hh : w'.heap[g]? = some (.cells cur e (0, 0))) :
    St W w' (row g 0 cur.toList :: R) := by
  have hb : Below W.heap.size W w' := s.1.grown hg s.1.size (by simp)
  refine s.grow hb (fun b hlt => hg.block b hlt (by simp)) (h1' := rowH g 0 .cell cur.toList) rfl (fun b o r hr => ?_) (fun b o hn => ?_)
  · obtain ⟨rfl, ho, v, hv, rfl⟩ := rowH_some hr
    have := s.1.size
    refine ⟨⟨?_, ?_⟩, fun _ => by omega⟩
    · simp [World.cell?, hh]; simpa using hv
    · simp [World.frozen?, hh]
  · obtain ⟨r, hr⟩ := Option.ne_none_iff_exists'.1 hn
    obtain ⟨rfl, _⟩ := rowH_some hr
    exact hge

theorem St.alloc (s : St W w R) (cs : Array Value) (e : TypeId) : St W (w.alloc (.cells cs e)) (row w.heap.size 0 cs.toList :: R) :=
  s.grown (World.grownBy_alloc w _ none) (Nat.le_refl _) (heap_alloc_new w _)

theorem St.row1 {v : Value} (s : St W w (row b o [v] :: R)) : St W w (pt b o v :: R) := by rw [pt_row]; exact s
theorem St.rowCons {v : Value} {vs : List Value} : St W w (row b o (v :: vs) :: R) ↔ St W w (pt b o v :: row b (o + 1) vs :: R) := by
  rw [pt_row]
  constructor
  · intro s
    exact (St.flat [row b o [v], row b (o + 1) vs]).1 (s.imp fun h x => (row_append b o [v] vs h).1 x)
  · intro s
    exact ((St.flat [row b o [v], row b (o + 1) vs]).2 s).imp fun h x => (row_append b o [v] vs h).2 x
theorem St.rowAppend {xs ys : List Value} : St W w (row b o (xs ++ ys) :: R) ↔ St W w (row b o xs :: row b (o + xs.length) ys :: R) := by
  constructor
  · intro s
    exact (St.flat [row b o xs, row b (o + xs.length) ys]).1 (s.imp fun h x => (row_append b o xs ys h).1 x)
  · intro s
    exact ((St.flat [row b o xs, row b (o + xs.length) ys]).2 s).imp fun h x => (row_append b o xs ys h).2 x
/-- One cell of an owned row is written. -/
theorem St.rowSet {vs : List Value} (s : St W w (row b o vs :: R)) {i : Nat} (hi : i < vs.length) (v : Value) : St W (w.setCell ⟨b, o + i, none⟩ v) (row b o (vs.set i v) :: R) := by
  have e1 : vs = vs.take i ++ (vs[i] :: vs.drop (i + 1)) := by rw [← List.drop_eq_getElem_cons, List.take_append_drop]
  have s1 : St W w (row b o (vs.take i ++ (vs[i] :: vs.drop (i + 1))) :: R) := by rw [← e1]; exact s
  have s2 : St W w (row b (o + (vs.take i).length) (vs[i] :: vs.drop (i + 1)) :: row b o (vs.take i) :: R) := (St.rowAppend.1 s1).pick 1
  rw [List.length_take, Nat.min_eq_left (Nat.le_of_lt hi)] at s2
  have s3 := (St.rowCons.1 s2).set v
  have s5 : St W (w.setCell ⟨b, o + i, none⟩ v) (row b o (vs.take i) :: row b (o + i) (v :: vs.drop (i + 1)) :: R) := (St.rowCons.2 s3).pick 1
  have e2 : vs.set i v = vs.take i ++ (v :: vs.drop (i + 1)) := by rw [List.set_eq_take_append_cons_drop, if_pos hi]
  rw [e2]
  refine St.rowAppend.2 ?_
  rw [List.length_take, Nat.min_eq_left (Nat.le_of_lt hi)]
  exact s5

theorem St.rowNil : St W w R ↔ St W w (row b o [] :: R) :=
  ⟨fun s => s.empD.imp fun h x => (row_nil b o h).2 x, fun s => s.drop⟩

end

end Go.Qd

/-
  Slices in the logic of ownership: 'RdS': a slice reads these cells in a world; 'OwnS': a slice is owned, with its spare cells. The laws for append, for cutting, for writing an element.
-/
namespace Go.Qd
open Go.RowKit

structure RdS (w : World) (sz : Nat) (ao : Option Addr) (n c : Nat) (cs : List Value) : Prop where
  len : cs.length = n * sz
  le : n ≤ c
  max : c ≤ maxLen
  nil : ao = none → c = 0
  addr : 0 < n → ∃ b o, ao = some ⟨b, o, none⟩
  cell : ∀ a, ao = some a → ∀ i u, cs[i]? = some u → w.cell? (a.add i) = some u
  one : ∀ u ∈ cs, u.oneCell' = true

theorem add_plain' (b o i : Nat) : (⟨b, o, none⟩ : Addr).add i = ⟨b, o + i, none⟩ := by
  unfold Addr.add
  split
  · rename_i h; subst h; rfl
  · rfl

theorem RdS.at {w : World} {sz n c b o : Nat} {cs : List Value} (h : RdS w sz (some ⟨b, o, none⟩) n c cs) {i : Nat} {u : Value} (hi : cs[i]? = some u) :
    w.cell? ⟨b, o + i, none⟩ = some u := by
  have := h.cell _ rfl i u hi
  rwa [add_plain'] at this

theorem RdS.at2 {w : World} {sz n c b o : Nat} {cs : List Value} (h : RdS w sz (some ⟨b, o, none⟩) n c cs) {i j : Nat} {u : Value} (hi : cs[i + j]? = some u) :
    w.cell? ⟨b, o + i + j, none⟩ = some u := by
  rw [Nat.add_assoc]; exact h.at hi

theorem RdS.big {w : World} {sz n c : Nat} {ao : Option Addr} {cs : List Value} (h : RdS w sz ao n c cs) : n ≤ 9223372036854775807 := by
  have h1 := h.le; have h2 := h.max; unfold maxLen at h2; omega

theorem RdS.same {w w' : World} {sz n c : Nat} {ao : Option Addr} {cs : List Value} (h : RdS w sz ao n c cs) (e : ∀ a, w'.cell? a = w.cell? a) : RdS w' sz ao n c cs :=
  ⟨h.len, h.le, h.max, h.nil, h.addr, fun a ha i u hu => (e _).trans (h.cell a ha i u hu), h.one⟩

theorem RdS.below {W w : World} {sz n c : Nat} {ao : Option Addr} {cs : List Value} (h : RdS W sz ao n c cs) (hb : Below W.heap.size W w) : RdS w sz ao n c cs :=
  ⟨h.len, h.le, h.max, h.nil, h.addr, fun a ha i u hu => by
    have := h.cell a ha i u hu
    exact (hb.cell (World.block_lt_of_cell? _ _ this)).trans this, h.one⟩

theorem RdS.st {W w : World} {R : List HP} {sz n c : Nat} {ao : Option Addr} {cs : List Value} (h : RdS W sz ao n c cs) (s : St W w R) : RdS w sz ao n c cs := h.below s.1

theorem RdS.alloc {w : World} {sz n c : Nat} {ao : Option Addr} {cs : List Value} (h : RdS w sz ao n c cs) (ob : Obj) : RdS (w.alloc ob) sz ao n c cs :=
  ⟨h.len, h.le, h.max, h.nil, h.addr, fun a ha i u hu => by
    have := h.cell a ha i u hu
    exact (World.cell?_alloc_lt _ _ _ (World.block_lt_of_cell? _ _ this)).trans this, h.one⟩

theorem RdS.drew {w : World} {sz n c : Nat} {ao : Option Addr} {cs : List Value} (h : RdS w sz ao n c cs) : RdS w.drew sz ao n c cs := h.same fun _ => rfl
theorem RdS.drewN {w : World} {sz n c : Nat} {ao : Option Addr} {cs : List Value} (h : RdS w sz ao n c cs) (k : Nat) : RdS (w.drewN k) sz ao n c cs := h.same fun _ => rfl

theorem RdS.none0 (w : World) (sz : Nat) : RdS w sz none 0 0 [] := ⟨by simp, Nat.le_refl _, by simp [maxLen], fun _ => rfl, fun h => absurd h (by decide), fun _ h => (by cases h), fun _ h => (by cases h)⟩

/-- The cells of an owned slice: those of its elements, and the spare ones. -/
def ownCells (ao : Option Addr) (vs : List Value) : HP := match ao with
  | some ⟨b, o, none⟩ => row b o vs
  | _ => emp

structure OwnP (sz : Nat) (ao : Option Addr) (n c : Nat) (cs sp : List Value) : Prop where
  len : cs.length = n * sz
  spare : sp.length = (c - n) * sz
  le : n ≤ c
  max : c ≤ maxLen
  nil : ao = none → c = 0
  addr : 0 < c → ∃ b o, ao = some ⟨b, o, none⟩
  one : ∀ u ∈ cs, u.oneCell' = true

def OwnS (sz : Nat) (ao : Option Addr) (n c : Nat) (cs : List Value) : HP := fun h => ∃ sp, OwnP sz ao n c cs sp ∧ ownCells ao (cs ++ sp) h

section
variable {W w : World} {R : List HP} {sz n c : Nat} {ao : Option Addr} {cs : List Value}

theorem OwnS.open (s : St W w (OwnS sz ao n c cs :: R)) : ∃ sp, OwnP sz ao n c cs sp ∧ St W w (ownCells ao (cs ++ sp) :: R) := by
  obtain ⟨sp, s⟩ := St.ex (F := fun sp h => OwnP sz ao n c cs sp ∧ ownCells ao (cs ++ sp) h) s
  obtain ⟨p, s⟩ := s.pure
  exact ⟨sp, p, s⟩

theorem OwnS.close {sp : List Value} (p : OwnP sz ao n c cs sp) (s : St W w (ownCells ao (cs ++ sp) :: R)) : St W w (OwnS sz ao n c cs :: R) :=
  s.imp fun _ x => ⟨sp, p, x⟩

theorem OwnS.rd (s : St W w (OwnS sz ao n c cs :: R)) : RdS w sz ao n c cs := by
  obtain ⟨sp, p, s⟩ := OwnS.open s
  refine ⟨p.len, p.le, p.max, p.nil, fun h => p.addr (by have := p.le; omega), fun a ha i u hi => ?_, p.one⟩
  subst ha
  have hc : 0 < c := by
    have h1 : i < cs.length := by
      rcases Nat.lt_or_ge i cs.length with g | g
      · exact g
      · rw [List.getElem?_eq_none g] at hi; cases hi
    rw [p.len] at h1
    rcases Nat.eq_zero_or_pos n with g | g
    · subst g; simp at h1
    · have := p.le; omega
  obtain ⟨b, o, e⟩ := p.addr hc
  cases e
  rw [add_plain']
  have hil : i < cs.length := by
    rcases Nat.lt_or_ge i cs.length with g | g
    · exact g
    · rw [List.getElem?_eq_none g] at hi; cases hi
  have s1 : St W w (row b o (cs ++ sp) :: R) := s
  exact s1.rowCell (by rw [List.getElem?_append_left hil]; exact hi)

theorem OwnS.none0 (s : St W w R) : St W w (OwnS sz none 0 0 [] :: R) :=
  OwnS.close (sp := []) ⟨by simp, by simp, Nat.le_refl _, by simp [maxLen], fun _ => rfl, fun h => absurd h (by decide), fun _ h => by cases h⟩ s.empD

/-- An empty slice owns nothing. -/
theorem OwnS.empty (s : St W w R) (ao : Option Addr) : St W w (OwnS sz ao 0 0 [] :: R) := by
  refine OwnS.close (sp := []) ⟨by simp, by simp, Nat.le_refl _, by simp [maxLen], fun _ => rfl, fun h => absurd h (by decide), fun _ h => by cases h⟩ ?_
  match ao with
  | none => exact s.empD
  | some ⟨b, o, none⟩ => exact St.rowNil.1 s
  | some ⟨b, o, some _⟩ => exact s.empD

/-- The first k elements are given up. -/
theorem OwnS.cut (s : St W w (OwnS sz ao n c cs :: R)) {k : Nat} (hk : k ≤ n) :
    St W w (OwnS sz (if c = k then ao else ao.map (·.add (k * sz))) (n - k) (c - k) (cs.drop (k * sz)) :: R) := by
  obtain ⟨sp, p, s⟩ := OwnS.open s
  have hle := p.le
  by_cases hc : c = k
  · have hn : n = k := by omega
    subst hc
    have e1 : n - c = 0 := by omega
    have e2 : cs.drop (c * sz) = [] := List.drop_eq_nil_of_le (by rw [p.len, hn]; exact Nat.le_refl _)
    rw [if_pos rfl, e1, e2, Nat.sub_self]
    exact OwnS.empty s.drop ao
  · rw [if_neg hc]
    obtain ⟨b, o, rfl⟩ := p.addr (by omega)
    simp only [Option.map_some, add_plain']
    have hkl : k * sz ≤ cs.length := by rw [p.len]; exact Nat.mul_le_mul_right _ hk
    refine OwnS.close (sp := sp) ⟨?_, ?_, by omega, by have := p.max; omega, by simp, fun _ => ⟨_, _, rfl⟩, fun u hu => p.one u (List.mem_of_mem_drop hu)⟩ ?_
    · rw [List.length_drop, p.len, Nat.sub_mul]
    · rw [p.spare]; congr 1; omega
    · have s' : St W w (row b o (cs.take (k * sz) ++ (cs.drop (k * sz) ++ sp)) :: R) := by
        rw [← List.append_assoc, List.take_append_drop]; exact s
      have := (St.rowAppend.1 s').drop
      rw [List.length_take, Nat.min_eq_left hkl] at this
      exact this

end

/-- What the table says of a slice's type. -/
structure ElemT (P : Program) (t e : TypeId) (sz bytes : Nat) : Prop where
  und : P.underlying t = some (.slice e)
  info : ∃ i z, P.info? e = some i ∧ i.zero = some z ∧ i.size = sz ∧ i.bytes = bytes ∧ z.cells.size = sz ∧ ∀ u ∈ z.cells.toList, u.oneCell' = true
  pos : 0 < sz

theorem ElemT.mk' {P : Program} {t e : TypeId} {sz bytes : Nat} {z : Value} (h : P.underlying t = some (.slice e)) (hi : (P.info? e).map (fun i => (i.zero, i.size, i.bytes)) = some (some z, sz, bytes))
    (hz : z.cells.size = sz) (hp : 0 < sz) (ho : ∀ u ∈ z.cells.toList, u.oneCell' = true) : ElemT P t e sz bytes :=
  ⟨h, by obtain ⟨i, h1, h2, h3, h4⟩ := info_parts hi; exact ⟨i, z, h1, h2, h3, h4, hz, ho⟩, hp⟩

section
variable {P : Program} {W w : World} {R : List HP} {sz bytes n c m cx : Nat} {ao ax : Option Addr} {cs news : List Value} {t e : TypeId}

/-- 'append' onto an owned slice: what was there, and what was read, is owned behind it. -/
theorem run_append_st (E : ElemT P t e sz bytes) (ty : TypeId) (s : St W w (OwnS sz ao n c cs :: R)) (rd : RdS w sz ax m cx news) (b1 : (n + m) ≤ maxLen) (b2 : (n + m) * bytes ≤ 140737488355328) :
    ∃ ao' c' w', (Builtin.append_ #[t, t] ty #[.slice ao n c, .slice ax m cx]).run P w = .ok (.slice ao' (n + m) c') w' ∧ St W w' (OwnS sz ao' (n + m) c' (cs ++ news) :: R) ∧ (n + m ≤ c → ao' = ao ∧ c' = c) := by
  obtain ⟨i, z, hi, hz, hsz, hby, hzs, hzo⟩ := E.info
  have hpos := E.pos
  obtain ⟨sp, p, s'⟩ := OwnS.open s
  have hrd := OwnS.rd s
  by_cases hfit : n + m ≤ c
  · -- there is room
    by_cases hm : m = 0
    · subst hm
      have hn0 : news = [] := List.eq_nil_of_length_eq_zero (by simpa using rd.len)
      subst hn0
      refine ⟨ao, c, w, ?_, by simpa using s, fun _ => ⟨rfl, rfl⟩⟩
      have hf : ∀ (x : Option Addr), (Builtin.firstCells sz 0 (.slice x 0 cx)).run P w = .ok #[] w := by
        intro x
        cases x with
        | none => simp [Builtin.firstCells]
        | some x => exact run_firstCells_some (P := P) w sz 0 x 0 cx [] (by simp) (by simp)
      cases ao with
      | none => simp [Builtin.append_, run_underlying E.und, sizeOf, typeInfo, hi, Builtin.lenOf, p.le, hsz, hf]
      | some x => simp [Builtin.append_, run_underlying E.und, sizeOf, typeInfo, hi, Builtin.lenOf, p.le, hsz, hf, storeCells]
    · obtain ⟨b, o, rfl⟩ := p.addr (by omega)
      obtain ⟨bx, ox, rfl⟩ := rd.addr (by omega)
      subst hsz
      have hspl : sp.length = (c - n) * i.size := p.spare
      have hnl : news.length ≤ sp.length := by rw [rd.len, hspl]; exact Nat.mul_le_mul_right _ (by omega)
      have hrow : St W w (row b o (cs ++ sp) :: R) := s'
      have hcell : ∀ j, j < news.length → (w.cell? ⟨b, o + n * i.size + j, none⟩).isSome = true ∧ w.frozen? ⟨b, o + n * i.size + j, none⟩ = false := by
        intro j hj
        have hlt : n * i.size + j < (cs ++ sp).length := by rw [List.length_append, p.len]; omega
        have h1 := hrow.rowCell (List.getElem?_eq_getElem hlt)
        have h2 := hrow.rowFree hlt
        rw [← Nat.add_assoc] at h1 h2
        exact ⟨by rw [h1]; rfl, h2⟩
      have hrun := run_append_room_cells (P := P) w t ty e i E.und hi b o n c ⟨bx, ox, none⟩ m cx news rd.len (fun j u hj => rd.cell _ rfl j u hj) rd.one hfit (fun j hj => (hcell j hj).1) (fun j hj => (hcell j hj).2)
      refine ⟨_, _, _, hrun, ?_, fun _ => ⟨rfl, rfl⟩⟩
      have h1 := St.rowAppend.1 hrow
      rw [p.len] at h1
      have h2 : St W w (row (b) (o + n * i.size) sp :: row b o cs :: R) := h1.pick 1
      rw [show sp = sp.take news.length ++ sp.drop news.length from (List.take_append_drop _ _).symm] at h2
      have h3 := St.rowAppend.1 h2
      have hlt : (sp.take news.length).length = news.length := by rw [List.length_take]; omega
      have h4 := h3.setCells (us := news) hlt.symm
      rw [hlt] at h4
      refine OwnS.close (sp := sp.drop news.length) ⟨?_, ?_, hfit, p.max, by simp, fun _ => ⟨_, _, rfl⟩, ?_⟩ ?_
      · rw [List.length_append, p.len, rd.len, Nat.add_mul]
      · rw [List.length_drop, hspl, rd.len, ← Nat.sub_mul]; congr 1; omega
      · intro u hu
        rcases List.mem_append.1 hu with g | g
        · exact p.one u g
        · exact rd.one u g
      · have h5 : St W (w.setCells b (o + n * i.size) news) (row b o cs :: row b (o + n * i.size) news :: row b (o + n * i.size + news.length) (sp.drop news.length) :: R) := h4.pick 2
        have h6 : St W (w.setCells b (o + n * i.size) news) (row b o (cs ++ (news ++ sp.drop news.length)) :: R) := by
          refine St.rowAppend.2 ?_
          rw [p.len]
          have h7 := St.pick 1 h5
          have h8 : St W (w.setCells b (o + n * i.size) news) (row b (o + n * i.size) news :: row b (o + n * i.size + news.length) (sp.drop news.length) :: row b o cs :: R) := St.pick 1 (St.pick 2 h7)
          exact St.pick 1 (St.rowAppend.2 h8)
        rw [← List.append_assoc] at h6
        exact h6
  · -- a new array
    have hm : 0 < m := by have := p.le; omega
    obtain ⟨bx, ox, rfl⟩ := rd.addr hm
    have key : ∃ v' w', (Builtin.append_ #[t, t] ty #[.slice ao n c, .slice (some ⟨bx, ox, none⟩) m cx]).run P w = .ok v' w' ∧ w'.ownsRow w.heap.size e sz v' (n + m) (cs ++ news) ∧ w.grownBy w' none := by
      cases ao with
      | none =>
        have hc0 := p.nil rfl
        have hn0 : n = 0 := by have := p.le; omega
        subst hc0; subst hn0
        have : cs = [] := List.eq_nil_of_length_eq_zero (by simpa using p.len)
        subst this
        obtain ⟨v', w', h1, h2, h3, _⟩ := run_append_own (P := P) w w.heap.size t ty e i z sz bytes E.und hi hz hsz hby hzs hpos (.slice none 0 0) 0 [] (World.ownsRow_nil w _ e sz) ⟨bx, ox, none⟩ m cx news rd.len (fun j u hj => rd.cell _ rfl j u hj) rd.one b1 b2 (Nat.le_refl _)
        exact ⟨v', w', h1, h2, h3⟩
      | some x =>
        exact run_append_arg_grows (P := P) w t ty e i z sz bytes E.und hi hz hsz hby hzs hpos x n c cs p.len (fun j u hj => hrd.cell x rfl j u hj) ⟨bx, ox, none⟩ m cx news rd.len (fun j u hj => rd.cell _ rfl j u hj) (by omega) b1 b2
    obtain ⟨v', w', hrun, ⟨hlen, hcase⟩, hg⟩ := key
    rcases hcase with ⟨_, h0⟩ | ⟨g, cap, cur, rfl, hge, hh, hn, hcap, hsize, htake⟩
    · omega
    · refine ⟨_, _, _, hrun, ?_, fun h => absurd h (by omega)⟩
      have s1 := s'.drop.grown hg hge hh
      refine OwnS.close (sp := cur.toList.drop ((n + m) * sz)) ⟨hlen, ?_, hn, hcap, by simp, fun _ => ⟨_, _, rfl⟩, ?_⟩ ?_
      · rw [List.length_drop, Array.length_toList, hsize, ← Nat.sub_mul]
      · intro u hu
        rcases List.mem_append.1 hu with g | g
        · exact p.one u g
        · exact rd.one u g
      · show St W w' (row g 0 _ :: R)
        rw [← htake, List.take_append_drop]
        exact s1

/-- A slice that can be read as long as the resources R are there. -/
def Rds (W : World) (R : List HP) (sz : Nat) (ao : Option Addr) (n c : Nat) (cs : List Value) : Prop := ∀ w, St W w R → RdS w sz ao n c cs

/-- The same, for the walk. -/
theorem wpl_append {ops : Array Oper} {rest : List Oper} {o : Oper} {a : Act} {Q : Exit → Act → World → Prop} (hgd : o.guard = none) (s x : Operand)
    (hop : o.op = Op.call { callee := Callee.builtin Builtin.append, args := #[s, x], argTypes := #[t, t] }) (E : ElemT P t e sz bytes)
    (hs : a.eval s = .slice ao n c) (hx : a.eval x = .slice ax m cx) (st : St W w (OwnS sz ao n c cs :: R)) (rd : RdS w sz ax m cx news) (b2 : (n + m) * bytes ≤ 140737488355328) (b1 : n + m ≤ maxLen)
    (hK : ∀ ao' c' w', St W w' (OwnS sz ao' (n + m) c' (cs ++ news) :: R) → wpList P ops Q rest (a.put o.dst (.slice ao' (n + m) c')) w') :
    wpList P ops Q (o :: rest) a w := by
  refine wpList_plain hgd fun K hK' => ?_
  obtain ⟨ao', c', w', hrun, st', _⟩ := run_append_st E o.type st rd b1 b2
  unfold Oper.wp
  simp [execOp, hop, resolve, invoke, builtin, hs, hx, hrun, Result.andThen]
  exact hK' _ _ (hK _ _ _ st')

/-- The same, where there is room: the slice stays where it is. -/
theorem wpl_append_room {ops : Array Oper} {rest : List Oper} {o : Oper} {a : Act} {Q : Exit → Act → World → Prop} (hgd : o.guard = none) (s x : Operand)
    (hop : o.op = Op.call { callee := Callee.builtin Builtin.append, args := #[s, x], argTypes := #[t, t] }) (E : ElemT P t e sz bytes)
    (hs : a.eval s = .slice ao n c) (hx : a.eval x = .slice ax m cx) (st : St W w (OwnS sz ao n c cs :: R)) (rd : RdS w sz ax m cx news) (b2 : (n + m) * bytes ≤ 140737488355328) (b1 : n + m ≤ maxLen) (hroom : n + m ≤ c)
    (hK : ∀ w', St W w' (OwnS sz ao (n + m) c (cs ++ news) :: R) → wpList P ops Q rest (a.put o.dst (.slice ao (n + m) c)) w') :
    wpList P ops Q (o :: rest) a w := by
  refine wpList_plain hgd fun K hK' => ?_
  obtain ⟨ao', c', w', hrun, st', h3⟩ := run_append_st E o.type st rd b1 b2
  obtain ⟨rfl, rfl⟩ := h3 hroom
  unfold Oper.wp
  simp [execOp, hop, resolve, invoke, builtin, hs, hx, hrun, Result.andThen]
  exact hK' _ _ (hK _ st')

/-- The same, as one step of a region that draws its order. -/
theorem step_append_st {ops : Array Oper} {o : Oper} {a : Act} {K : Act → World → Prop} {Q : Exit → Act → World → Prop} {EE : Prop} (hgd : o.guard = none) (s x : Operand)
    (hop : o.op = Op.call { callee := Callee.builtin Builtin.append, args := #[s, x], argTypes := #[t, t] }) (E : ElemT P t e sz bytes)
    (hs : a.eval s = .slice ao n c) (hx : a.eval x = .slice ax m cx) (st : St W w (OwnS sz ao n c cs :: R)) (rd : RdS w sz ax m cx news) (b2 : (n + m) * bytes ≤ 140737488355328) (b1 : n + m ≤ maxLen)
    (hK : ∀ ao' c' w', St W w' (OwnS sz ao' (n + m) c' (cs ++ news) :: R) → K (a.put o.dst (.slice ao' (n + m) c')) w') :
    if Region.wanted o (yielded ops a.tmps) = true then Oper.wp P o a w K Q else EE := by
  have hw : Region.wanted o (yielded ops a.tmps) = true := by simp [Region.wanted, hgd]
  rw [if_pos hw]
  obtain ⟨ao', c', w', hrun, st', _⟩ := run_append_st E o.type st rd b1 b2
  unfold Oper.wp
  simp [execOp, hop, resolve, invoke, builtin, hs, hx, hrun, Result.andThen]
  exact hK _ _ _ st'

theorem wpl_min {ops : Array Oper} {rest : List Oper} {o : Oper} {a : Act} {Q : Exit → Act → World → Prop} (hgd : o.guard = none) (x y : Operand) {ty : Array TypeId}
    (hop : o.op = Op.call { callee := Callee.builtin Builtin.min, args := #[x, y], argTypes := ty }) {k : IntKind} {i j : Int} (hx : a.eval x = .int k i) (hy : a.eval y = .int k j)
    (hK : wpList P ops Q rest (a.put o.dst (.int k (min i j))) w) : wpList P ops Q (o :: rest) a w := by
  refine wpList_plain hgd fun K hK' => ?_
  have hrun : (Builtin.min_ ty o.type #[.int k i, .int k j]).run P w = .ok (.int k (min i j)) w := by
    simp only [Builtin.min_, List.foldlM, Builtin.min2]
    have : (if j < i then j else i) = min i j := by rw [Int.min_def]; split <;> split <;> omega
    simp [this]
  unfold Oper.wp
  simp [execOp, hop, resolve, invoke, builtin, hx, hy, hrun, Result.andThen]
  exact hK' _ _ hK

/-- The last elements become spare. -/
theorem OwnS.short (st : St W w (OwnS sz ao n c cs :: R)) {k : Nat} (hk : k ≤ n) : St W w (OwnS sz ao k c (cs.take (k * sz)) :: R) := by
  obtain ⟨sp, p, s⟩ := OwnS.open st
  have hkl : k * sz ≤ cs.length := by rw [p.len]; exact Nat.mul_le_mul_right _ hk
  have hle := p.le
  refine OwnS.close (sp := cs.drop (k * sz) ++ sp) ⟨by rw [List.length_take, Nat.min_eq_left hkl], ?_, by omega, p.max, p.nil, p.addr, fun u hu => p.one u (List.mem_of_mem_take hu)⟩ ?_
  · rw [List.length_append, List.length_drop, p.spare, p.len, ← Nat.sub_mul, ← Nat.add_mul]; congr 1; omega
  · rw [← List.append_assoc, List.take_append_drop]; exact s

theorem RdS.short {cs : List Value} (h : RdS w sz ao n c cs) {k : Nat} (hk : k ≤ n) : RdS w sz ao k c (cs.take (k * sz)) := by
  have hkl : k * sz ≤ cs.length := by rw [h.len]; exact Nat.mul_le_mul_right _ hk
  have hle := h.le
  refine ⟨by rw [List.length_take, Nat.min_eq_left hkl], by omega, h.max, h.nil, fun hp => h.addr (by omega), fun a ha i u hu => ?_, fun u hu => h.one u (List.mem_of_mem_take hu)⟩
  rw [List.getElem?_take] at hu
  split at hu
  · exact h.cell a ha i u hu
  · cases hu

/-- What 's[n:]' is of a slice of capacity c. -/
def TailOf (sz : Nat) (ao : Option Addr) (n c : Nat) (ax : Option Addr) (cx : Nat) : Prop := ax = (if c = n then ao else ao.map (·.add (n * sz))) ∧ cx = c - n

theorem RdS.tail {cs : List Value} (h : RdS w sz ao n c cs) {k n' : Nat} (hn : n' + k = n) {cx : Nat} (ht : TailOf sz ao k c ax cx) : RdS w sz ax n' cx (cs.drop (k * sz)) := by
  obtain ⟨rfl, rfl⟩ := ht
  have hle := h.le
  have hmax := h.max
  refine ⟨by rw [List.length_drop, h.len, ← Nat.sub_mul]; congr 1; omega, by omega, by omega, fun hn0 => ?_, fun hp => ?_, fun a ha i u hu => ?_, fun u hu => h.one u (List.mem_of_mem_drop hu)⟩
  · split at hn0
    · omega
    · have := h.nil (by simpa using hn0); omega
  · rw [if_neg (by omega)]
    obtain ⟨b, o, rfl⟩ := h.addr (by omega)
    exact ⟨b, o + k * sz, by simp [add_plain']⟩
  · rw [List.getElem?_drop] at hu
    have hlt : k * sz + i < cs.length := by
      rcases Nat.lt_or_ge (k * sz + i) cs.length with g | g
      · exact g
      · rw [List.getElem?_eq_none g] at hu; cases hu
    have hn0 : 0 < n' := by
      rcases Nat.eq_zero_or_pos n' with g | g
      · subst g; rw [h.len, ← hn] at hlt; simp at hlt; omega
      · exact g
    rw [if_neg (by omega)] at ha
    obtain ⟨b, o, rfl⟩ := h.addr (by omega)
    simp only [Option.map_some, Option.some.injEq, add_plain'] at ha
    subst ha
    rw [add_plain']
    have := h.at hu
    rwa [show o + k * sz + i = o + (k * sz + i) from by omega]

theorem wpl_mid {ops : Array Oper} {rest : List Oper} {o : Oper} {a : Act} {Q : Exit → Act → World → Prop} (hgd : o.guard = none) (x lo hi : Operand)
    (hop : o.op = Op.slice t x (some lo) (some hi) none) (E : ElemT P t e sz bytes) (k m : Nat) {n' : Nat} (hx : a.eval x = .slice ao n c) (hlo : a.eval lo = .int .i64 k) (hhi : a.eval hi = .int .i64 m) (hn : n' + k = m) (hm : m ≤ c)
    (hK : ∀ ax cx, TailOf sz ao k c ax cx → wpList P ops Q rest (a.put o.dst (.slice ax n' cx)) w) :
    wpList P ops Q (o :: rest) a w := by
  refine wpList_plain hgd fun K hK' => ?_
  obtain ⟨i, z, hi', hz, hsz, hby, hzs, hzo⟩ := E.info
  have hrun : (Instr.slice t (.slice ao n c) (some (.int .i64 k)) (some (.int .i64 m)) none).run P w = .ok (.slice (if c = k then ao else ao.map (·.add (k * sz))) n' (c - k)) w := by
    have hkn : (k : Int) ≤ (m : Int) := by omega
    have hmc : (m : Int) ≤ (c : Int) := by omega
    simp [Instr.slice, run_underlying E.und, Instr.sliceBounds, run_sliceBound, hkn, hmc, sizeOf, typeInfo, hi', hsz]
    omega
  unfold Oper.wp
  have hat := run_sliceAt_slice (P := P) w t (.slice ao n c) (some (.int .i64 k)) (some (.int .i64 m)) none (by rw [E.und]; simp [Program.elem, E.und])
  simp [execOp, hop, hx, hlo, hhi, hat, hrun, Result.andThen]
  exact hK' _ _ (hK _ _ ⟨rfl, rfl⟩)

theorem run_slice_to (E : ElemT P t e sz bytes) (ao : Option Addr) (n c k : Nat) (hk : k ≤ c) (w : World) : (Instr.slice t (.slice ao n c) none (some (.int .i64 k)) none).run P w = .ok (.slice ao k c) w := by
  obtain ⟨i, z, hi', hz, hsz, hby, hzs, hzo⟩ := E.info
  have hmc : (k : Int) ≤ (c : Int) := by omega
  have h0 : ao.map (·.add (0 * sz)) = ao := by cases ao <;> simp [Addr.add]
  simp [Instr.slice, run_underlying E.und, Instr.sliceBounds, run_sliceBound, hmc, sizeOf, typeInfo, hi']
  intro _
  simpa using h0

theorem run_slice_from (E : ElemT P t e sz bytes) (ao : Option Addr) (n c k n' : Nat) {i : Int} (hik : i = k) (hn : n' + k = n) :
    ∃ ax cx, TailOf sz ao k c ax cx ∧ ∀ w, (Instr.slice t (.slice ao n c) (some (.int .i64 i)) none none).run P w = .ok (.slice ax n' cx) w := by
  subst hik
  obtain ⟨i, z, hi, hz, hsz, hby, hzs, hzo⟩ := E.info
  refine ⟨_, _, ⟨rfl, rfl⟩, fun w => ?_⟩
  have hkn : (k : Int) ≤ (n : Int) := by omega
  simp [Instr.slice, run_underlying E.und, Instr.sliceBounds, run_sliceBound, hkn, sizeOf, typeInfo, hi, hsz]
  omega

theorem zeroCells_one (z : Array Value) (n : Nat) (h : ∀ u ∈ z.toList, u.oneCell' = true) : ∀ u ∈ (Builtin.zeroCells z n).toList, u.oneCell' = true := by
  intro u hu
  simp only [Builtin.zeroCells, Array.toList_map, List.mem_map, Array.mem_toList_iff, Array.mem_range] at hu
  obtain ⟨i, hi, rfl⟩ := hu
  have hz : 0 < z.size := by
    rcases Nat.eq_zero_or_pos z.size with g | g
    · rw [g] at hi; simp at hi
    · exact g
  have hlt : i % z.size < z.size := Nat.mod_lt _ hz
  rw [getElem!_pos z _ hlt]
  exact h _ (by simp)

/-- 'clear' of spare places. -/
theorem run_clear_st (E : ElemT P t e sz bytes) (ty : TypeId) (st : St W w (OwnS sz ao n c cs :: R)) {k : Nat} (hk : n + k ≤ c) {cx : Nat} (ht : TailOf sz ao n c ax cx) :
    ∃ w', (Builtin.clear_ #[t] ty #[.slice ax k cx]).run P w = .ok (.tuple #[]) w' ∧ St W w' (OwnS sz ao n c cs :: R) := by
  obtain ⟨rfl, rfl⟩ := ht
  obtain ⟨i, z, hi, hz, hsz, hby, hzs, hzo⟩ := E.info
  rcases Nat.eq_zero_or_pos k with g | g
  · subst g
    refine ⟨w, ?_, st⟩
    by_cases h : c = n
    · rw [if_pos h]; cases ao <;> simp [Builtin.clear_, run_underlying E.und]
    · rw [if_neg h]; cases ao <;> simp [Builtin.clear_, run_underlying E.und]
  · obtain ⟨sp, p, s⟩ := OwnS.open st
    obtain ⟨b, o, rfl⟩ := p.addr (by omega)
    rw [if_neg (by omega)]
    simp only [Option.map_some, add_plain']
    let zs := (Builtin.zeroCells z.cells k).toList
    have hzl : zs.length = k * sz := by show (Builtin.zeroCells z.cells k).toList.length = _; rw [Array.length_toList, size_zeroCells, hzs]
    have hsl : zs.length ≤ sp.length := by rw [hzl, p.spare]; exact Nat.mul_le_mul_right _ (by omega)
    have s1 : St W w (row b o (cs ++ (sp.take zs.length ++ sp.drop zs.length)) :: R) := by rw [List.take_append_drop]; exact s
    have s2 : St W w (row b (o + n * sz) (sp.take zs.length ++ sp.drop zs.length) :: row b o cs :: R) := by
      have := (St.rowAppend.1 s1).pick 1
      rw [p.len] at this
      exact this
    have s3 := St.rowAppend.1 s2
    have htl : (sp.take zs.length).length = zs.length := by rw [List.length_take]; omega
    have s4 := s3.setCells (us := zs) htl.symm
    rw [htl] at s4
    have hcell : ∀ j, j < zs.length → (w.cell? ⟨b, o + n * sz + 0 + j, none⟩).isSome = true := fun j hj => by
      rw [Nat.add_zero, s3.rowCell (List.getElem?_eq_getElem (by omega : j < (sp.take zs.length).length))]; rfl
    have hfree : ∀ j, j < zs.length → w.frozen? ⟨b, o + n * sz + 0 + j, none⟩ = false := fun j hj => by
      rw [Nat.add_zero]; exact s3.rowFree (by omega)
    have hst := run_storeCells_cells (P := P) b (o + n * sz) zs 0 w hcell hfree (zeroCells_one z.cells k hzo)
    rw [Nat.add_zero] at hst
    refine ⟨w.setCells b (o + n * sz) zs, ?_, ?_⟩
    · have hk0 : k ≠ 0 := by omega
      have hst' : (storeCells ⟨b, o + n * sz, none⟩ (Builtin.zeroCells z.cells k).toList).run P w = .ok () (w.setCells b (o + n * sz) zs) := hst
      simp [Builtin.clear_, run_underlying E.und, zeroValue, typeInfo, hi, hz, hst', hk0]
    · refine OwnS.close (sp := zs ++ sp.drop zs.length) ⟨p.len, ?_, p.le, p.max, p.nil, p.addr, p.one⟩ ?_
      · rw [List.length_append, List.length_drop]; have := p.spare; omega
      · have s5 : St W (w.setCells b (o + n * sz) zs) (row b (o + n * sz) (zs ++ sp.drop zs.length) :: row b o cs :: R) := St.rowAppend.2 s4
        have s6 : St W (w.setCells b (o + n * sz) zs) (row b o cs :: row b (o + n * sz) (zs ++ sp.drop zs.length) :: R) := s5.pick 1
        refine St.rowAppend.2 ?_
        rw [p.len]
        exact s6

theorem wpl_clear {ops : Array Oper} {rest : List Oper} {o : Oper} {a : Act} {Q : Exit → Act → World → Prop} (hgd : o.guard = none) (x : Operand)
    (hop : o.op = Op.call { callee := Callee.builtin Builtin.clear, args := #[x], argTypes := #[t] }) (E : ElemT P t e sz bytes)
    {k cx : Nat} (hx : a.eval x = .slice ax k cx) (st : St W w (OwnS sz ao n c cs :: R)) (hk : n + k ≤ c) (ht : TailOf sz ao n c ax cx)
    (hK : ∀ w', St W w' (OwnS sz ao n c cs :: R) → wpList P ops Q rest (a.put o.dst (.tuple #[])) w') :
    wpList P ops Q (o :: rest) a w := by
  refine wpList_plain hgd fun K hK' => ?_
  obtain ⟨w', hrun, st'⟩ := run_clear_st E o.type st hk ht
  unfold Oper.wp
  simp [execOp, hop, resolve, invoke, builtin, hx, hrun, Result.andThen]
  exact hK' _ _ (hK _ st')

/-- 's[k:]' of an owned slice. -/
theorem wpl_cut {ops : Array Oper} {rest : List Oper} {o : Oper} {a : Act} {Q : Exit → Act → World → Prop} (hgd : o.guard = none) (x lo : Operand)
    (hop : o.op = Op.slice t x (some lo) none none) (E : ElemT P t e sz bytes) (k : Nat) {n' : Nat} (hx : a.eval x = .slice ao n c) (hlo : a.eval lo = .int .i64 k) (st : St W w (OwnS sz ao n c cs :: R)) (hn : n' + k = n)
    (hK : ∀ ao' c', St W w (OwnS sz ao' n' c' (cs.drop (k * sz)) :: R) → wpList P ops Q rest (a.put o.dst (.slice ao' n' c')) w) :
    wpList P ops Q (o :: rest) a w := by
  refine wpList_plain hgd fun K hK' => ?_
  obtain ⟨i, z, hi, hz, hsz, hby, hzs, hzo⟩ := E.info
  have hk : k ≤ n := by omega
  have st' := OwnS.cut st hk
  rw [show n - k = n' from by omega] at st'
  have hrun : (Instr.slice t (.slice ao n c) (some (.int .i64 k)) none none).run P w = .ok (.slice (if c = k then ao else ao.map (·.add (k * sz))) n' (c - k)) w := by
    have hkn : (k : Int) ≤ (n : Int) := by omega
    simp [Instr.slice, run_underlying E.und, Instr.sliceBounds, run_sliceBound, hkn, sizeOf, typeInfo, hi, hsz]
    omega
  unfold Oper.wp
  have hat := run_sliceAt_slice (P := P) w t (.slice ao n c) (some (.int .i64 k)) none none (by rw [E.und]; simp [Program.elem, E.und])
  simp [execOp, hop, hx, hlo, hat, hrun, Result.andThen]
  exact hK' _ _ (hK _ _ st')

/-- An element of an owned slice of one-cell elements is written. -/
theorem OwnS.set {b o i : Nat} {v : Value} (st : St W w (OwnS 1 (some ⟨b, o, none⟩) n c cs :: R)) (hi : i < n) (hv : v.oneCell' = true) :
    St W (w.setCell ⟨b, o + i, none⟩ v) (OwnS 1 (some ⟨b, o, none⟩) n c (cs.set i v) :: R) := by
  obtain ⟨sp, p, s⟩ := OwnS.open st
  have hl : i < cs.length := by have := p.len; omega
  have s1 : St W w (row b o (cs ++ sp) :: R) := s
  have e1 : cs ++ sp = cs.take i ++ (cs[i] :: (cs.drop (i + 1) ++ sp)) := by
    rw [← List.cons_append, ← List.append_assoc, ← List.drop_eq_getElem_cons, List.take_append_drop]
  rw [e1] at s1
  have s2 : St W w (row b (o + (cs.take i).length) (cs[i] :: (cs.drop (i + 1) ++ sp)) :: row b o (cs.take i) :: R) := (St.rowAppend.1 s1).pick 1
  rw [List.length_take, Nat.min_eq_left (Nat.le_of_lt hl)] at s2
  have s3 := (St.rowCons.1 s2).set v
  have s4 := St.rowCons.2 s3
  have s5 : St W (w.setCell ⟨b, o + i, none⟩ v) (row b o (cs.take i) :: row b (o + i) (v :: (cs.drop (i + 1) ++ sp)) :: R) := s4.pick 1
  refine OwnS.close (sp := sp) ⟨by rw [List.length_set]; exact p.len, p.spare, p.le, p.max, by simp, fun _ => ⟨_, _, rfl⟩, ?_⟩ ?_
  · intro u hu
    rcases List.mem_or_eq_of_mem_set hu with g | g
    · exact p.one u g
    · rw [g]; exact hv
  · show St W (w.setCell ⟨b, o + i, none⟩ v) (row b o (cs.set i v ++ sp) :: R)
    have e2 : cs.set i v ++ sp = cs.take i ++ (v :: (cs.drop (i + 1) ++ sp)) := by
      rw [List.set_eq_take_append_cons_drop, if_pos hl]; simp
    rw [e2]
    refine St.rowAppend.2 ?_
    rw [List.length_take, Nat.min_eq_left (Nat.le_of_lt hl)]
    exact s5

end

theorem RdS.rds {W : World} {sz n c : Nat} {ao : Option Addr} {cs : List Value} (h : RdS W sz ao n c cs) (R : List HP) : Rds W R sz ao n c cs := fun _ s => h.st s
theorem Rds.of {W : World} {R R' : List HP} {sz n c : Nat} {ao : Option Addr} {cs : List Value} (h : Rds W R sz ao n c cs) (f : ∀ w, St W w R' → St W w R) : Rds W R' sz ao n c cs := fun w s => h w (f w s)
theorem Rds.cons {W : World} {R : List HP} {A : HP} {sz n c : Nat} {ao : Option Addr} {cs : List Value} (h : Rds W R sz ao n c cs) : Rds W (A :: R) sz ao n c cs := fun w s => h w s.drop
theorem OwnS.rds {W : World} {R : List HP} {sz n c : Nat} {ao : Option Addr} {cs : List Value} : Rds W (OwnS sz ao n c cs :: R) sz ao n c cs := fun _ s => OwnS.rd s

section
variable {W w : World} {R : List HP} {sz : Nat}

/-- A row that was just made, read as a slice. -/
theorem St.rowRd {vs : List Value} {b n : Nat} (s : St W w (row b 0 vs :: R)) (hl : vs.length = n * sz) (hm : n ≤ maxLen) (ho : ∀ u ∈ vs, u.oneCell' = true) : RdS w sz (some ⟨b, 0, none⟩) n n vs :=
  ⟨hl, Nat.le_refl _, hm, by simp, fun _ => ⟨_, _, rfl⟩, fun a ha i u hu => by
    cases ha
    rw [add_plain']
    exact s.rowCell hu, ho⟩

end

/-- A slice that is only read: it came in, or it is owned. -/
def RdH (W : World) (sz : Nat) (ao : Option Addr) (n c : Nat) (cs : List Value) : HP := fun h => (RdS W sz ao n c cs ∧ emp h) ∨ OwnS sz ao n c cs h

section
variable {W w : World} {R : List HP} {sz n c : Nat} {ao : Option Addr} {cs : List Value}

theorem RdH.cases (s : St W w (RdH W sz ao n c cs :: R)) : (RdS W sz ao n c cs ∧ St W w R) ∨ St W w (OwnS sz ao n c cs :: R) := by
  obtain ⟨b, h, ⟨h1, h2, cc, e, a, d⟩, k⟩ := s
  rcases a with ⟨r, x⟩ | x
  · exact .inl ⟨r, St.empE ⟨b, h, ⟨h1, h2, cc, e, x, d⟩, k⟩⟩
  · exact .inr ⟨b, h, ⟨h1, h2, cc, e, x, d⟩, k⟩

theorem RdH.old (r : RdS W sz ao n c cs) (s : St W w R) : St W w (RdH W sz ao n c cs :: R) := s.empD.imp fun _ x => .inl ⟨r, x⟩
theorem RdH.own (s : St W w (OwnS sz ao n c cs :: R)) : St W w (RdH W sz ao n c cs :: R) := s.imp fun _ x => .inr x

theorem RdH.rd (s : St W w (RdH W sz ao n c cs :: R)) : RdS w sz ao n c cs := by
  rcases RdH.cases s with ⟨r, s⟩ | s
  · exact r.st s
  · exact OwnS.rd s

theorem RdH.rds : Rds W (RdH W sz ao n c cs :: R) sz ao n c cs := fun _ s => RdH.rd s

theorem RdH.tail (s : St W w (RdH W sz ao n c cs :: R)) {k n' : Nat} (hn : n' + k = n) {ax : Option Addr} {cx : Nat} (ht : TailOf sz ao k c ax cx) : St W w (RdH W sz ax n' cx (cs.drop (k * sz)) :: R) := by
  rcases RdH.cases s with ⟨r, s⟩ | s
  · exact RdH.old (r.tail hn ht) s
  · obtain ⟨rfl, rfl⟩ := ht
    have := OwnS.cut s (k := k) (by omega)
    rw [show n - k = n' from by omega] at this
    exact RdH.own this
end

/-! Slices of int. -/
abbrev iv (n : Int) : Value := .int .i64 n
def ivs (zs : List Int) : List Value := zs.map iv
theorem ivs_one (zs : List Int) : ∀ u ∈ ivs zs, u.oneCell' = true := ints_oneCell .i64 zs
theorem ivs_append (a b : List Int) : ivs (a ++ b) = ivs a ++ ivs b := List.map_append
theorem ivs_length (a : List Int) : (ivs a).length = a.length := List.length_map _
theorem ivs_get {a : List Int} {i : Nat} (h : i < a.length) : (ivs a)[i]? = some (iv a[i]) := by simp [ivs, h]

end Go.Qd

/- From the reading of an argument to what the walks ask. -/
namespace Go.Qd
open Go.RowKit Go.ChangeShapes Go.WideShapes Go.ChangeAt

theorem wf_range {n : Int} (h : (Lit.int .i64 n).wf = true) : -9223372036854775808 ≤ n ∧ n ≤ 9223372036854775807 := by
  have h1 : IntKind.i64.min = -9223372036854775808 := rfl
  have h2 : IntKind.i64.max = 9223372036854775807 := rfl
  simp only [Lit.wf, Bool.and_eq_true, decide_eq_true_eq] at h
  omega

theorem mapM_some {α β : Type} {f : α → Option β} : ∀ {l : List α} {r : List β}, l.mapM f = some r → r.length = l.length ∧ ∀ i (h : i < l.length), f l[i] = r[i]?
  | [], r, h => by simp at h; subst h; simp
  | a :: l, r, h => by
    simp only [List.mapM_cons, Option.pure_def, Option.bind_eq_bind, Option.bind_eq_some_iff, Option.some.injEq] at h
    obtain ⟨b, hb, s, hs, rfl⟩ := h
    obtain ⟨h1, h2⟩ := mapM_some hs
    refine ⟨by simp [h1], fun i hi => ?_⟩
    cases i with
    | zero => simpa using hb
    | succ i => simpa using h2 i (by simpa using hi)

theorem cells_some {w : World} {base : Nat} {a : Addr} {n : Nat} {cs : List Value} (h : w.cells? base a n = some cs) : cs.length = n ∧ ∀ (i : Nat) u, cs[i]? = some u → w.cell? (a.add i) = some u := by
  unfold World.cells? at h
  split at h
  · obtain ⟨h1, h2⟩ := mapM_some h
    rw [List.length_range] at h1
    refine ⟨h1, fun i u hu => ?_⟩
    have hi : i < cs.length := by
      rcases Nat.lt_or_ge i cs.length with g | g
      · exact g
      · rw [List.getElem?_eq_none g] at hu; cases hu
    have := h2 i (by simpa using (by omega : i < n))
    rw [hu] at this
    simpa using this
  · cases h

/-- A slice that came in: its elements' cells, each as it reads. -/
theorem slice_of_trod {H : Type} {enc : TypeId × Value → H} {P : Program} {W : World} {base : Nat} {sp : Nat → Bool} {held : Bool} {T E : TypeId} {a : Option Addr} {n c sz fuel : Nat} {x : DataW H × List MemPlace}
    (uT : P.underlying T = some (.slice E)) (cE : P.cellsOf E = sz) (hp : 0 < sz) (h : DataW.trod enc P W base sp held fuel T [.slice a n c] = some x)
    (hone : ∀ m cs y, DataW.trod enc P W base sp held m E cs = some y → ∀ u ∈ cs, u.oneCell' = true) :
    ∃ css : List (List Value), css.length = n ∧ (∀ cs ∈ css, cs.length = sz) ∧ RdS W sz a n c css.flatten ∧ ∀ cs ∈ css, ∃ m y, DataW.trod enc P W base sp held m E cs = some y := by
  rcases DataW.trod_slice uT h with ⟨hcs, _⟩ | ⟨b, l, cc, elems, rest, m, _, hcs, _, _, hl, hm, hlen, hel, _⟩
  · simp at hcs
    obtain ⟨rfl, rfl, rfl⟩ := hcs
    exact ⟨[], rfl, fun _ h => (by cases h), RdS.none0 _ _, fun _ h => (by cases h)⟩
  · simp at hcs
    obtain ⟨rfl, rfl, rfl⟩ := hcs
    rw [cE] at hel
    have each : ∀ i, i < n → ∃ cs, W.cells? base (b.add (i * sz)) sz = some cs ∧ ∃ y, DataW.trod enc P W base sp held m E cs = some y := by
      intro i hi
      have := hel i hi
      rw [List.getElem?_eq_getElem (by omega), Option.bind_eq_some_iff] at this
      obtain ⟨cs, h1, h2⟩ := this
      exact ⟨cs, h1, _, h2⟩
    let f : Nat → List Value := fun i => (W.cells? base (b.add (i * sz)) sz).getD []
    have hf : ∀ i, i < n → W.cells? base (b.add (i * sz)) sz = some (f i) ∧ ∃ y, DataW.trod enc P W base sp held m E (f i) = some y := by
      intro i hi
      obtain ⟨cs, h1, h2⟩ := each i hi
      have : f i = cs := by show (W.cells? base (b.add (i * sz)) sz).getD [] = cs; rw [h1]; rfl
      rw [this]
      exact ⟨h1, h2⟩
    have hlens : ∀ cs ∈ (List.range n).map f, cs.length = sz := by
      intro cs hc
      obtain ⟨i, hi, rfl⟩ := List.mem_map.1 hc
      exact (cells_some (hf i (List.mem_range.1 hi)).1).1
    have key : ∀ k, k ≤ n → (((List.range k).map f).flatten.length = k * sz ∧ ∀ i u, ((List.range k).map f).flatten[i]? = some u → W.cell? (b.add i) = some u) := by
      intro k
      induction k with
      | zero => intro _; simp
      | succ k ih =>
        intro hk
        obtain ⟨h1, h2⟩ := ih (by omega)
        obtain ⟨g1, g2⟩ := cells_some (hf k (by omega)).1
        rw [List.range_succ, List.map_append, List.flatten_append]
        refine ⟨by rw [List.length_append, h1]; simp [g1, Nat.add_mul], fun i u hu => ?_⟩
        by_cases hi : i < k * sz
        · rw [List.getElem?_append_left (by omega)] at hu
          exact h2 i u hu
        · rw [List.getElem?_append_right (by omega), h1] at hu
          have hz : b.spot = none := by
            rcases Nat.eq_zero_or_pos k with g | g
            · subst g
              have hf0 := g2 0
              have : ∃ u0, (f 0)[0]? = some u0 := by
                have : 0 < (f 0).length := by omega
                exact ⟨_, List.getElem?_eq_getElem this⟩
              obtain ⟨u0, hu0⟩ := this
              have := World.cell?_spot (hf0 u0 hu0)
              simpa [Addr.add] using this
            · have : ∃ u0, ((List.range k).map f).flatten[0]? = some u0 := by
                have : 0 < ((List.range k).map f).flatten.length := by rw [h1]; exact Nat.mul_pos g hp
                exact ⟨_, List.getElem?_eq_getElem this⟩
              obtain ⟨u0, hu0⟩ := this
              have := World.cell?_spot (h2 0 u0 hu0)
              simpa [Addr.add] using this
          have := g2 (i - k * sz) u (by simpa using hu)
          obtain ⟨bb, bo, bs⟩ := b
          simp only at hz
          subst hz
          rw [add_plain', add_plain'] at this
          rw [add_plain']
          rwa [show bo + k * sz + (i - k * sz) = bo + i from by omega] at this
    obtain ⟨k1, k2⟩ := key n (Nat.le_refl _)
    refine ⟨(List.range n).map f, by simp, hlens, ⟨k1, hl, hm, by simp, fun hn => ?_, fun a ha i u hu => ?_, fun u hu => ?_⟩, fun cs hc => ?_⟩
    · have : ∃ u0, ((List.range n).map f).flatten[0]? = some u0 := by
        have : 0 < ((List.range n).map f).flatten.length := by rw [k1]; exact Nat.mul_pos hn hp
        exact ⟨_, List.getElem?_eq_getElem this⟩
      obtain ⟨u0, hu0⟩ := this
      have := World.cell?_spot (k2 0 u0 hu0)
      obtain ⟨bb, bo, bs⟩ := b
      have : bs = none := by simpa [Addr.add] using this
      subst this
      exact ⟨bb, bo, rfl⟩
    · cases ha; exact k2 i u hu
    · obtain ⟨cs, hc, hu'⟩ := List.mem_flatten.1 hu
      obtain ⟨i, hi, rfl⟩ := List.mem_map.1 hc
      obtain ⟨_, y, hy⟩ := hf i (List.mem_range.1 hi)
      exact hone _ _ _ hy u hu'
    · obtain ⟨i, hi, rfl⟩ := List.mem_map.1 hc
      exact ⟨m, (hf i (List.mem_range.1 hi)).2⟩

theorem flat_get {α : Type} {sz : Nat} : ∀ {css : List (List α)} (_ : ∀ cs ∈ css, cs.length = sz) {i : Nat} (hi : i < css.length) {j : Nat} (_ : j < sz), css.flatten[i * sz + j]? = css[i][j]?
  | [], _, i, hi, _, _ => by simp at hi
  | cs :: css, h, i, hi, j, hj => by
    have h0 := h cs (by simp)
    cases i with
    | zero => simp only [List.flatten_cons, Nat.zero_mul, Nat.zero_add, List.getElem_cons_zero]; rw [List.getElem?_append_left (by omega)]
    | succ i =>
      have := flat_get (css := css) (fun c hc => h c (by simp [hc])) (i := i) (by simpa using hi) hj
      rw [List.flatten_cons, List.getElem?_append_right (by rw [h0, Nat.add_mul]; omega), List.getElem_cons_succ, ← this]
      congr 1
      rw [h0, Nat.add_mul]; omega

theorem int_cells {H : Type} {enc : TypeId × Value → H} {P : Program} {W : World} {base : Nat} {sp : Nat → Bool} {held : Bool} {E : TypeId} {m : Nat} {cs : List Value} {y : DataW H × List MemPlace}
    (uE : P.underlying E = some (.int .i64)) (h : DataW.trod enc P W base sp held m E cs = some y) : ∃ z : Int, cs = [iv z] ∧ -9223372036854775808 ≤ z ∧ z ≤ 9223372036854775807 := by
  obtain ⟨z, rfl, rfl, hw⟩ := DataW.trod_int uE h
  exact ⟨z, rfl, wf_range hw⟩

/-- A slice of int that came in. -/
theorem ints_of_trod' {H : Type} {enc : TypeId × Value → H} {P : Program} {W : World} {base : Nat} {sp : Nat → Bool} {held : Bool} {T E : TypeId} {a : Option Addr} {n c fuel : Nat} {x : DataW H × List MemPlace}
    (uT : P.underlying T = some (.slice E)) (uE : P.underlying E = some (.int .i64)) (cE : P.cellsOf E = 1) (h : DataW.trod enc P W base sp held fuel T [.slice a n c] = some x) :
    ∃ zs, RdS W 1 a n c (ivs zs) ∧ ∀ z ∈ zs, -9223372036854775808 ≤ z ∧ z ≤ 9223372036854775807 := by
  obtain ⟨css, h1, h2, h3, h4⟩ := slice_of_trod uT cE (by decide) h (fun m cs y hy u hu => by
    obtain ⟨z, rfl, _⟩ := int_cells uE hy
    simp at hu; subst hu; rfl)
  have : ∀ css : List (List Value), (∀ cs ∈ css, ∃ m y, DataW.trod enc P W base sp held m E cs = some y) → ∃ zs, css.flatten = ivs zs ∧ ∀ z ∈ zs, -9223372036854775808 ≤ z ∧ z ≤ 9223372036854775807 := by
    intro css
    induction css with
    | nil => intro _; exact ⟨[], rfl, fun _ h => (by cases h)⟩
    | cons cs css ih =>
      intro hh
      obtain ⟨m, y, hy⟩ := hh cs (by simp)
      obtain ⟨z, rfl, hz⟩ := int_cells uE hy
      obtain ⟨zs, e, hzs⟩ := ih (fun c hc => hh c (by simp [hc]))
      refine ⟨z :: zs, by simp [ivs, e], fun u hu => ?_⟩
      rcases List.mem_cons.1 hu with rfl | hu
      · exact hz
      · exact hzs u hu
  obtain ⟨zs, e, hz⟩ := this css h4
  rw [e] at h3
  exact ⟨zs, h3, hz⟩

end Go.Qd

/- Maps in the logic of ownership: an association list whose keys are encoded. -/
namespace Go.Qd
open Go.RowKit

/-- The first entry with this key: its place and its value. -/
def lookAt {κ : Type} [DecidableEq κ] (a : κ) : List (κ × Value) → Nat → Option (Nat × Value)
  | [], _ => none
  | p :: l, i => if a = p.1 then some (i, p.2) else lookAt a l (i + 1)

structure KeyT (P : Program) (K : TypeId) {κ : Type} [DecidableEq κ] (enc : κ → Value) : Prop where
  check : ∀ e a w, (Instr.checkKey e 10000 K (enc a)).run P w = .ok () w
  find : ∀ a (l : List (κ × Value)) (es : List MapEntry) w, es.map (fun e => (e.key, e.val)) = l.map (fun p => (enc p.1, p.2)) → (Instr.findKey K (enc a) es).run P w = .ok (lookAt a l 0) w
  bits : ∀ a, Instr.sameBits 10000 (enc a) (enc a) = true

section
variable {P : Program} {K : TypeId} {κ : Type} [DecidableEq κ] {enc : κ → Value}

end

/-- A map that is owned. -/
def MapA {κ : Type} (enc : κ → Value) (m : Nat) (l : List (κ × Value)) : HP := fun h => ∃ x : Array MapEntry × Nat, x.1.toList.map (fun e => (e.key, e.val)) = l.map (fun p => (enc p.1, p.2)) ∧ h = single m 0 (.obj (.map x.1 x.2))

section
variable {W w : World} {R : List HP} {κ : Type} {enc : κ → Value} {m : Nat} {l : List (κ × Value)}

theorem MapA.open (s : St W w (MapA enc m l :: R)) : ∃ es clock, es.toList.map (fun e => (e.key, e.val)) = l.map (fun p => (enc p.1, p.2)) ∧ w.heap[m]? = some (.map es clock) ∧ W.heap.size ≤ m := by
  obtain ⟨x, s⟩ := St.ex (F := fun (x : Array MapEntry × Nat) h => x.1.toList.map (fun e => (e.key, e.val)) = l.map (fun p => (enc p.1, p.2)) ∧ h = single m 0 (.obj (.map x.1 x.2))) s
  obtain ⟨p, s⟩ := s.pure
  have := s.front (fun _ h => h) m 0 (.obj (.map x.1 x.2)) (by simp [single])
  exact ⟨x.1, x.2, p, this.1.2.1, this.2 rfl⟩

/-- The map's object is replaced. -/
theorem MapA.set {l' : List (κ × Value)} (s : St W w (MapA enc m l :: R)) (es : Array MapEntry) (clock : Nat) (h : es.toList.map (fun e => (e.key, e.val)) = l'.map (fun p => (enc p.1, p.2))) :
    St W { w with heap := w.heap.setIfInBounds m (.map es clock) } (MapA enc m l' :: R) := by
  obtain ⟨es0, c0, h0, hh, hge⟩ := MapA.open s
  have hlt : m < w.heap.size := by
    rcases Nat.lt_or_ge m w.heap.size with g | g
    · exact g
    · simp [Array.getElem?_eq_none g] at hh
  have hother : ∀ k, k ≠ m → (w.heap.setIfInBounds m (.map es clock))[k]? = w.heap[k]? := fun k hk => by
    rw [Array.getElem?_setIfInBounds_ne (Ne.symm hk)]
  refine s.update (B := MapA enc m l') ⟨s.1.os, s.1.tape, s.1.output, by simpa using s.1.size, fun k hk => (hother k (by omega)).trans (s.1.block k hk)⟩ ?_
  rintro h1 ⟨x, hx, rfl⟩ k1
  refine ⟨single m 0 (.obj (.map es clock)), ⟨(es, clock), h, rfl⟩, fun b o r hr => ?_, fun b o hn => ?_, fun b o r hb hown hr => ?_⟩
  · unfold single at hr
    split at hr
    · rename_i hc
      obtain ⟨rfl, rfl⟩ := hc
      cases hr
      exact ⟨⟨rfl, by simp [hlt], rfl⟩, fun _ => hge⟩
    · cases hr
  · unfold single at hn
    split at hn
    · rename_i hc
      obtain ⟨rfl, rfl⟩ := hc
      exact .inr ⟨.obj (.map x.1 x.2), by simp [single], .inl rfl⟩
    · exact absurd rfl hn
  · by_cases hbm : b = m
    · subst hbm
      have hm1 := (k1 b 0 (.obj (.map x.1 x.2)) (by simp [single])).1.2.1
      cases r with
      | cell v => simp [Res.ok, World.cell?, hm1] at hr
      | ro v => simp [Res.ok, World.cell?, hm1] at hr
      | obj ob =>
        have := hown (.obj (.map x.1 x.2)) (by have := hr.1; subst this; simp [single])
        simp [Res.own] at this
    · exact hr.same (hother b hbm)

theorem MapA.make (s : St W w R) : St W (w.alloc (.map #[] 0)) (MapA enc w.heap.size [] :: R) := by
  refine s.grow (B := MapA enc w.heap.size []) (s.1.alloc s.1.size _) (fun b hlt => heap_alloc_old w _ hlt) (h1' := single w.heap.size 0 (.obj (.map #[] 0))) ⟨(#[], 0), rfl, rfl⟩ (fun b o r hr => ?_) (fun b o hn => ?_)
  · unfold single at hr
    split at hr
    · rename_i hc
      obtain ⟨rfl, rfl⟩ := hc
      cases hr
      exact ⟨⟨rfl, heap_alloc_new w _, rfl⟩, fun _ => s.1.size⟩
    · cases hr
  · unfold single at hn
    split at hn
    · rename_i hc; omega
    · exact absurd rfl hn

end

/-- The entry at a place is given another value. -/
def putAt {κ : Type} : List (κ × Value) → Nat → Value → List (κ × Value)
  | [], _, _ => []
  | p :: l, 0, v => (p.1, v) :: l
  | p :: l, i + 1, v => p :: putAt l i v

theorem entries_put {κ : Type} {enc : κ → Value} {es : List MapEntry} {l : List (κ × Value)} {i : Nat} {a : κ} {u v : Value} (h : es.map (fun e => (e.key, e.val)) = l.map (fun p => (enc p.1, p.2))) (hi : l[i]? = some (a, u)) :
    (es.modify i fun e => { e with key := enc a, val := v }).map (fun e => (e.key, e.val)) = (putAt l i v).map (fun p => (enc p.1, p.2)) := by
  induction l generalizing es i with
  | nil => simp at hi
  | cons p l ih =>
    cases es with
    | nil => simp at h
    | cons e es =>
      simp only [List.map_cons, List.cons.injEq] at h
      cases i with
      | zero =>
        simp at hi
        subst hi
        simp [putAt, h.2]
      | succ i =>
        have := ih h.2 (by simpa using hi)
        simp [putAt, this]
        simpa using h.1

theorem map_erase {α β : Type} (f : α → β) : ∀ (l : List α) (i : Nat), (l.eraseIdx i).map f = (l.map f).eraseIdx i
  | [], _ => rfl
  | _ :: _, 0 => rfl
  | a :: l, i + 1 => congrArg (f a :: ·) (map_erase f l i)

theorem entries_erase {κ : Type} {enc : κ → Value} {es : List MapEntry} {l : List (κ × Value)} (i : Nat) (h : es.map (fun e => (e.key, e.val)) = l.map (fun p => (enc p.1, p.2))) :
    (es.eraseIdx i).map (fun e => (e.key, e.val)) = (l.eraseIdx i).map (fun p => (enc p.1, p.2)) := by
  rw [map_erase, h, map_erase]

section
variable {P : Program} {W w : World} {R : List HP} {K : TypeId} {κ : Type} [DecidableEq κ] {enc : κ → Value} {m : Nat} {l : List (κ × Value)} {t e : TypeId}

/-- 'm[k] = v'. -/
def aput (l : List (κ × Value)) (a : κ) (v : Value) : List (κ × Value) := match lookAt a l 0 with
  | some p => putAt l p.1 v
  | none => l ++ [(a, v)]

/-- 'delete(m, k)'. -/
def adel (l : List (κ × Value)) (a : κ) : List (κ × Value) := match lookAt a l 0 with
  | some p => l.eraseIdx p.1
  | none => l

theorem lookAt_spec {a : κ} : ∀ {l : List (κ × Value)} {i : Nat} {p : Nat × Value}, lookAt a l i = some p → i ≤ p.1 ∧ p.1 - i < l.length ∧ l[p.1 - i]? = some (a, p.2)
  | [], i, p, h => by simp [lookAt] at h
  | q :: l, i, p, h => by
    unfold lookAt at h
    split at h
    · rename_i hq
      cases h
      simp [hq]
    · obtain ⟨h1, h2, h3⟩ := lookAt_spec h
      refine ⟨by omega, by simp; omega, ?_⟩
      rw [show p.1 - i = (p.1 - (i + 1)) + 1 from by omega, List.getElem?_cons_succ]
      exact h3

/-- 'm[k] = v' of an owned map. -/
theorem run_mapUpdate_st (kt : KeyT P K enc) (hu : P.underlying t = some (.map K e)) (s : St W w (MapA enc m l :: R)) (a : κ) (v : Value) :
    ∃ w', (Instr.mapUpdate t (.map (some m)) (enc a) v).run P w = .ok () w' ∧ St W w' (MapA enc m (aput l a v) :: R) := by
  obtain ⟨es, clock, h, hh, _⟩ := MapA.open s
  have hg : (getObj m).run P w = .ok (.map es clock) w := by simp [getObj, Sem.run, hh]
  have hf := kt.find a l es.toList w h
  have hc := kt.check false a w
  have hset : ∀ o : Obj, Obj.isCells o = false → (setObj m o).run P w = .ok () { w with heap := w.heap.setIfInBounds m o } := fun o _ => by simp [setObj, Sem.run, hh]
  cases hl : lookAt a l 0 with
  | none =>
    rw [hl] at hf
    refine ⟨_, ?_, MapA.set s (es.push { key := enc a, val := v, born := clock }) (clock + 1) (l' := aput l a v) (by simp [aput, hl, h])⟩
    simp only [Instr.mapUpdate]
    simp [run_underlying hu, hg, hc, hf, hset _ (rfl : Obj.isCells (.map _ _) = false)]
  | some p =>
    rw [hl] at hf
    obtain ⟨_, h2, h3⟩ := lookAt_spec hl
    rw [Nat.sub_zero] at h2 h3
    have hk : ((es[p.1]?).map (·.key)).getD (enc a) = enc a := by
      have := congrArg (fun x => x[p.1]?) h
      simp only [List.getElem?_map, h3] at this
      cases hq : es.toList[p.1]? with
      | none => rw [hq] at this; simp at this
      | some e0 =>
        rw [hq] at this
        simp at this
        have : es[p.1]? = some e0 := by rw [← hq]; simp
        simp [this]
        rename_i hthis
        exact hthis.1
    have hst : (Instr.keyThatStays (enc a) (enc a)).run P w = .ok (enc a) w := by simp [Instr.keyThatStays, kt.bits a]
    refine ⟨_, ?_, MapA.set s (es.modify p.1 fun e => { e with key := enc a, val := v }) clock (l' := aput l a v) (by simp only [aput, hl, Array.toList_modify]; exact entries_put h h3)⟩
    simp only [Instr.mapUpdate]
    simp [run_underlying hu, hg, hc, hf, hk, hst, hset _ (rfl : Obj.isCells (.map _ _) = false)]

/-- 'delete(m, k)' of an owned map. -/
theorem run_delete_st (kt : KeyT P K enc) (hu : P.underlying t = some (.map K e)) (s : St W w (MapA enc m l :: R)) (a : κ) (ty : TypeId) (u : TypeId) :
    ∃ w', (Builtin.delete_ #[t, u] ty #[.map (some m), enc a]).run P w = .ok (.tuple #[]) w' ∧ St W w' (MapA enc m (adel l a) :: R) := by
  obtain ⟨es, clock, h, hh, _⟩ := MapA.open s
  have hg : (getObj m).run P w = .ok (.map es clock) w := by simp [getObj, Sem.run, hh]
  have hf := kt.find a l es.toList w h
  have hc := kt.check es.isEmpty a w
  have hset : ∀ o : Obj, Obj.isCells o = false → (setObj m o).run P w = .ok () { w with heap := w.heap.setIfInBounds m o } := fun o _ => by simp [setObj, Sem.run, hh]
  cases hl : lookAt a l 0 with
  | none =>
    rw [hl] at hf
    refine ⟨_, ?_, MapA.set s es clock (l' := adel l a) (by simp [adel, hl, h])⟩
    simp only [Builtin.delete_]
    simp [run_underlying hu, hg, hc, hf, hset _ (rfl : Obj.isCells (.map _ _) = false)]
  | some p =>
    rw [hl] at hf
    refine ⟨_, ?_, MapA.set s (es.eraseIdxIfInBounds p.1) clock (l' := adel l a) (by simp only [adel, hl]; rw [show (es.eraseIdxIfInBounds p.1).toList = es.toList.eraseIdx p.1 from by simp]; exact entries_erase p.1 h)⟩
    simp only [Builtin.delete_]
    simp [run_underlying hu, hg, hc, hf, hset _ (rfl : Obj.isCells (.map _ _) = false)]

end

end Go.Qd

/- 'copy' into owned cells, 'append' of zeros, and what slices.Insert asks of its new element, in the logic of ownership. -/
namespace Go.Qd
open Go.RowKit

/-- A list with other elements from a place on. -/
def splice (l : List Value) (p : Nat) (x : List Value) : List Value := l.take p ++ x ++ l.drop (p + x.length)

theorem splice_len {l x : List Value} {p : Nat} (h : p + x.length ≤ l.length) : (splice l p x).length = l.length := by
  unfold splice; simp; omega

section
variable {P : Program} {W w : World} {R : List HP} {sz bytes n c m : Nat} {ao ax : Option Addr} {cs news : List Value} {t e : TypeId} {b o : Nat}

theorem St.setPart {vs xs : List Value} (s : St W w (row b o vs :: R)) {p : Nat} (hp : p + xs.length ≤ vs.length) : St W (w.setCells b (o + p) xs) (row b o (splice vs p xs) :: R) := by
  have e1 : vs = vs.take p ++ ((vs.drop p).take xs.length ++ vs.drop (p + xs.length)) := by
    rw [← List.drop_drop, List.take_append_drop, List.take_append_drop]
  have s1 : St W w (row b o (vs.take p ++ ((vs.drop p).take xs.length ++ vs.drop (p + xs.length))) :: R) := by rw [← e1]; exact s
  have hl : (vs.take p).length = p := by rw [List.length_take]; omega
  have s2 : St W w (row b (o + p) ((vs.drop p).take xs.length ++ vs.drop (p + xs.length)) :: row b o (vs.take p) :: R) := by
    have := (St.rowAppend.1 s1).pick 1; rw [hl] at this; exact this
  have hl2 : ((vs.drop p).take xs.length).length = xs.length := by rw [List.length_take, List.length_drop]; omega
  have s3 := St.rowAppend.1 s2
  have s4 := s3.setCells (us := xs) hl2.symm
  rw [hl2] at s4
  have s5 : St W (w.setCells b (o + p) xs) (row b (o + p) (xs ++ vs.drop (p + xs.length)) :: row b o (vs.take p) :: R) := St.rowAppend.2 s4
  have s6 : St W (w.setCells b (o + p) xs) (row b o (vs.take p ++ (xs ++ vs.drop (p + xs.length))) :: R) := by
    refine St.rowAppend.2 ?_
    rw [hl]
    exact s5.pick 1
  unfold splice
  rw [List.append_assoc]
  exact s6

/-- 'copy' into a part of an owned row. -/
theorem run_copy_row (E : ElemT P t e sz bytes) (ty : TypeId) {vs xs : List Value} (s : St W w (row b o vs :: R)) {p d dc cx : Nat} (hx : xs.length = Nat.min m d * sz) (hp : p + xs.length ≤ vs.length)
    {a : Addr} (hsrc : ∀ j u, xs[j]? = some u → w.cell? (a.add j) = some u) (h1 : ∀ u ∈ xs, u.oneCell' = true) :
    ∃ w', (Builtin.copy_ #[t, t] ty #[.slice (some ⟨b, o + p, none⟩) d dc, .slice (some a) m cx]).run P w = .ok (.int .i64 (Nat.min m d : Nat)) w' ∧ St W w' (row b o (splice vs p xs) :: R) := by
  obtain ⟨i, z, hi, hz, hsz, hby, hzs, hzo⟩ := E.info
  have hl := run_loadCells_list (P := P) w a xs hsrc
  rw [hx] at hl
  have hst := run_storeCells_cells (P := P) b (o + p) xs 0 w (fun j hj => by
      rw [Nat.add_zero, Nat.add_assoc, s.rowCell (List.getElem?_eq_getElem (by omega : p + j < vs.length))]; rfl)
    (fun j hj => by rw [Nat.add_zero, Nat.add_assoc]; exact s.rowFree (by omega)) h1
  rw [Nat.add_zero] at hst
  refine ⟨w.setCells b (o + p) xs, ?_, s.setPart hp⟩
  simp [Builtin.copy_, run_underlying E.und, Builtin.lenOf, Builtin.firstCells, sizeOf, typeInfo, hi, hsz, hl, hst, goInt]

theorem wpl_copy_row {ops : Array Oper} {rest : List Oper} {q : Oper} {A : Act} {Q : Exit → Act → World → Prop} (hgd : q.guard = none) (x y : Operand)
    (hop : q.op = Op.call { callee := Callee.builtin Builtin.copy, args := #[x, y], argTypes := #[t, t] }) (E : ElemT P t e sz bytes)
    {vs xs : List Value} {p d dc cx : Nat} {a : Addr} (hx : A.eval x = .slice (some ⟨b, o + p, none⟩) d dc) (hy : A.eval y = .slice (some a) m cx) (s : St W w (row b o vs :: R)) (hl : xs.length = Nat.min m d * sz) (hp : p + xs.length ≤ vs.length)
    (hsrc : ∀ j u, xs[j]? = some u → w.cell? (a.add j) = some u) (h1 : ∀ u ∈ xs, u.oneCell' = true)
    (hK : ∀ w', St W w' (row b o (splice vs p xs) :: R) → wpList P ops Q rest (A.put q.dst (.int .i64 (Nat.min m d : Nat))) w') : wpList P ops Q (q :: rest) A w := by
  refine wpList_plain hgd fun K hK' => ?_
  obtain ⟨w', hrun, st'⟩ := run_copy_row E q.type s (dc := dc) (cx := cx) hl hp hsrc h1
  unfold Oper.wp
  simp [execOp, hop, resolve, invoke, builtin, hx, hy, hrun, Result.andThen]
  exact hK' _ _ (hK _ st')

/-- 'append(s, make([]T, k)...)' where there is no room. -/
theorem run_append_zeros_st (E : ElemT P t e sz bytes) {tn : TypeId} (htn : P.underlying tn = some (.int .i64)) (ty : TypeId) (s : St W w R) (rd : RdS w sz ao n c cs) {k : Nat} (h0 : 0 < k) (hg : c < n + k) (hb : (n + k) * bytes ≤ 140737488355328) (hm : n + k ≤ maxLen) :
    ∃ g c' w' zs, (Builtin.append_ #[t, tn] ty #[.slice ao n c, .int .i64 k]).run P w = .ok (.slice (some ⟨g, 0, none⟩) (n + k) c') w' ∧ St W w' (row g 0 (cs ++ zs) :: R) ∧ zs.length = (c' - n) * sz ∧ n + k ≤ c' ∧ c' ≤ maxLen := by
  obtain ⟨i, z, hi, hz, hsz, hby, hzs, hzo⟩ := E.info
  have hpos := E.pos
  have hold : (Builtin.firstCells i.size n (.slice ao n c)).run P w.drew = .ok cs.toArray w.drew := by
    rw [hsz]
    cases ao with
    | none =>
      have hc0 := rd.nil rfl
      have hn0 : n = 0 := by have := rd.le; omega
      subst hn0
      have : cs = [] := List.eq_nil_of_length_eq_zero (by simpa using rd.len)
      subst this
      simp [Builtin.firstCells]
    | some a => exact run_firstCells_some (P := P) w.drew sz n a n c cs rd.len (fun j v hj => (rd.cell a rfl j v hj))
  have hk : k * bytes ≤ 140737488355328 := Nat.le_trans (Nat.mul_le_mul_right _ (by omega)) hb
  have h := Lib.run_append_grow_zeros w t tn ty e i z .i64 .i64 E.und htn hi hz ao n c cs hold k h0 (by omega) hg (by unfold maxLen at hm; omega) (by rw [hby]; omega) (by rw [hby]; exact growslice_fits hg hb)
  have hge := grownCap_ge w (n + k) c e
  have hgm := grownCap_le_maxLen w (n + k) c e hm
  refine ⟨w.heap.size, grownCap w (n + k) c e, _, (Builtin.zeroCells z.cells k).toList ++ (Builtin.zeroCells z.cells (grownCap w (n + k) c e - (n + k))).toList, h, ?_, ?_, hge, hgm⟩
  · have s1 := (s.drew).alloc (cs.toArray ++ Builtin.zeroCells z.cells k ++ Builtin.zeroCells z.cells (grownCap w (n + k) c e - (n + k))) e
    have : (cs.toArray ++ Builtin.zeroCells z.cells k ++ Builtin.zeroCells z.cells (grownCap w (n + k) c e - (n + k))).toList = cs ++ ((Builtin.zeroCells z.cells k).toList ++ (Builtin.zeroCells z.cells (grownCap w (n + k) c e - (n + k))).toList) := by simp
    rw [this] at s1
    exact s1
  · rw [List.length_append, Array.length_toList, Array.length_toList, size_zeroCells, size_zeroCells, hzs, ← Nat.add_mul]
    congr 1
    omega

/-- Two owned rows have no cell in common. -/
theorem St.apart {vs us : List Value} {b1 o1 b2 o2 : Nat} (s : St W w (row b1 o1 vs :: row b2 o2 us :: R)) {i j : Nat} (hi : i < vs.length) (hj : j < us.length) : ¬ (b1 = b2 ∧ o1 + i = o2 + j) := by
  rintro ⟨rfl, he⟩
  obtain ⟨_, h, ⟨h1, h2, c, rfl, a, ⟨g1, g2, c', rfl, a', _⟩⟩, _⟩ := s
  have e1 : h1 b1 (o1 + i) = some (.cell vs[i]) := by rw [show h1 = _ from a]; exact rowH_at (List.getElem?_eq_getElem hi)
  have e2 : g1 b1 (o1 + i) = some (.cell us[j]) := by rw [show g1 = _ from a', he]; exact rowH_at (List.getElem?_eq_getElem hj)
  rcases c b1 (o1 + i) with g | g | ⟨v, g, _⟩
  · rw [e1] at g; cases g
  · simp [join, e2] at g
  · rw [e1] at g; cases g

theorem cell_shape {v : Value} (h : w.cell? ⟨b, o, none⟩ = some v) : ∃ t k, w.shape? b = some (t, k) ∧ k ≠ 0 := by
  unfold World.cell? at h
  simp only at h
  cases hb : w.heap[b]? with
  | none => simp [hb] at h
  | some ob =>
    rw [hb] at h
    cases ob with
    | cells c el fr =>
      refine ⟨el, c.size, by simp [World.shape?, hb], fun h0 => ?_⟩
      simp at h
      have : c[o]? = none := by rw [Array.getElem?_eq_none]; omega
      rw [this] at h; cases h
    | _ => simp at h

/-- A new element's block is another one than the slice's. -/
theorem fresh_block {vs us : List Value} {A : Array Value} {vb : Nat} (s : St W w (row b o us :: row vb 0 vs :: R)) (hv : w.heap[vb]? = some (.cells A e (0, 0))) (hl : A.size = vs.length) (hu : 0 < us.length) : vb ≠ b := by
  rintro rfl
  have h := s.rowCell (i := 0) (List.getElem?_eq_getElem hu)
  unfold World.cell? at h
  simp only [hv] at h
  have ho : o < A.size := by
    rcases Nat.lt_or_ge o A.size with g | g
    · exact g
    · rw [Nat.add_zero, Array.getElem?_eq_none g] at h; simp at h
  exact s.apart (i := 0) (j := o) hu (by omega) ⟨rfl, by omega⟩

theorem run_overlaps_no {vs us : List Value} {A : Array Value} {vb : Nat} {tS tR : TypeId} (E : ElemT P tS e sz bytes) (s : St W w (row b o us :: row vb 0 vs :: R)) (hv : w.heap[vb]? = some (.cells A e (0, 0))) (hl : A.size = vs.length) (hu : 0 < us.length) (o' la ca lb cb : Nat) :
    (Extern.SlicesOverlaps.overlaps #[tS, tS] #[tR] #[.slice (some ⟨vb, 0, none⟩) la ca, .slice (some ⟨b, o', none⟩) lb cb]).run P w = .ok (.bool false) w := by
  obtain ⟨i, z, hi, hz, hsz, hby, hzs, hzo⟩ := E.info
  have h := s.rowCell (i := 0) (List.getElem?_eq_getElem hu)
  obtain ⟨tB, kB, hsb, hkB⟩ := cell_shape h
  exact Lib.run_overlaps_apart w tS tR e E.und sz (fun w => by simp [sizeOf, typeInfo, hi, hsz]) ⟨vb, 0, none⟩ ⟨b, o', none⟩ la ca lb cb (fresh_block s hv hl hu) e tB A.size kB (by simp [World.shape?, hv]) hsb hkB (by simp [World.frozen?, hv]) (by simp [World.frozen?, hv])

theorem run_slice_at (E : ElemT P t e sz bytes) (b o n c k : Nat) {n' : Nat} {i : Int} (hik : i = k) (hn : n' + k = n) (hc : c ≠ k) (w : World) :
    (Instr.slice t (.slice (some ⟨b, o, none⟩) n c) (some (.int .i64 i)) none none).run P w = .ok (.slice (some ⟨b, o + k * sz, none⟩) n' (c - k)) w := by
  obtain ⟨ax, cx, ⟨rfl, rfl⟩, h⟩ := run_slice_from E (some ⟨b, o, none⟩) n c k n' hik hn
  rw [h w, if_neg hc, Option.map_some, add_plain']

/-- What Insert makes of the cells, in place. -/
theorem splice_insert {cs sp vs : List Value} {p s : Nat} (hp : p ≤ cs.length) (hv : vs.length = s) (hsp : s ≤ sp.length) : splice (splice (cs ++ sp) (p + s) (cs.drop p)) p vs = (cs.take p ++ vs ++ cs.drop p) ++ sp.drop s := by
  have hd : (cs.drop p).length = cs.length - p := List.length_drop
  have h1 : splice (cs ++ sp) (p + s) (cs.drop p) = (cs ++ sp).take (p + s) ++ (cs.drop p ++ sp.drop s) := by
    unfold splice
    rw [List.append_assoc, hd, show p + s + (cs.length - p) = cs.length + s from by omega, List.drop_append, List.drop_eq_nil_of_le (by omega : cs.length ≤ cs.length + s)]
    simp
  rw [h1]
  unfold splice
  rw [hv, List.take_append, List.drop_append]
  have hl : ((cs ++ sp).take (p + s)).length = p + s := by rw [List.length_take, List.length_append]; omega
  rw [hl, Nat.sub_eq_zero_of_le (by omega : p ≤ p + s), List.take_zero, List.append_nil, Nat.sub_self, List.drop_zero, List.drop_eq_nil_of_le (by omega), List.nil_append, List.take_take, Nat.min_eq_left (by omega : p ≤ p + s), List.take_append_of_le_length hp]
  simp [List.append_assoc]

/-- .. and in a new array. -/
theorem splice_insert2 {cs zs vs : List Value} {p s : Nat} (hp : p ≤ cs.length) (hv : vs.length = s) (_hz : s + (cs.length - p) ≤ zs.length) : splice (splice (cs.take p ++ zs) p vs) (p + s) (cs.drop p) = (cs.take p ++ vs ++ cs.drop p) ++ zs.drop (s + (cs.length - p)) := by
  have hd : (cs.drop p).length = cs.length - p := List.length_drop
  have ht : (cs.take p).length = p := by rw [List.length_take]; omega
  have h1 : splice (cs.take p ++ zs) p vs = cs.take p ++ vs ++ zs.drop s := by
    unfold splice
    rw [hv, List.take_append, List.drop_append, ht, Nat.sub_self, List.take_zero, List.append_nil, List.take_of_length_le (by omega), List.drop_eq_nil_of_le (by omega), List.nil_append, Nat.add_sub_cancel_left]
  rw [h1]
  have hl : (cs.take p ++ vs).length = p + s := by rw [List.length_append, ht, hv]
  have e3 : List.drop (p + s + (cs.length - p)) (cs.take p ++ vs) = [] := List.drop_eq_nil_of_le (by omega)
  have e4 : List.take (p + s) (cs.take p ++ vs) = cs.take p ++ vs := List.take_of_length_le (by omega)
  unfold splice
  rw [hd, List.take_append, List.drop_append, hl, Nat.sub_self, List.take_zero, List.append_nil, e3, e4, List.nil_append, List.drop_drop]
  congr 2
  omega

theorem St.takeDrop12 {A B C : HP} (s : St W w (A :: B :: C :: R)) : St W w (A :: R) := (St.pick 2 s).dropN 1 |> fun s => (St.pick 1 s).drop

end

end Go.Qd

/- Structs and arrays by value, of whatever size, in the logic of ownership: load, store, box, alloc of all their cells at once. -/
namespace Go.Qd
open Go.RowKit

structure AggT (P : Program) (t : TypeId) (n : Nat) : Prop where
  und : ∃ d, P.underlying t = some d ∧ (match d with | .struct _ | .array _ _ => true | _ => false) = true
  size : (P.info? t).map (·.size) = some n

section
variable {P : Program} {W w : World} {R : List HP} {t : TypeId} {n b o : Nat} {vs us : List Value}

theorem run_isAgg (A : AggT P t n) (w : World) : (isAgg t).run P w = .ok true w := by
  obtain ⟨d, hu, hd⟩ := A.und
  unfold isAgg
  rw [Sem.run_bind, run_underlying hu w]
  cases d <;> simp_all

theorem run_sizeA (A : AggT P t n) (w : World) : (sizeOf t).run P w = .ok n w := by
  have h := A.size
  cases hq : P.info? t with
  | none => simp [hq] at h
  | some i => simp [sizeOf, typeInfo, hq]; simpa [hq] using h

theorem run_loadA (A : AggT P t n) (hl : vs.length = n) (hc : ∀ j u, vs[j]? = some u → w.cell? ⟨b, o + j, none⟩ = some u) : (loadVar t ⟨b, o, none⟩).run P w = .ok (.agg vs.toArray) w := by
  have h := run_loadCells_list (P := P) w ⟨b, o, none⟩ vs (fun j u hu => by rw [add_plain']; exact hc j u hu)
  rw [hl] at h
  simp [loadVar, run_isAgg A, run_sizeA A, h]

theorem run_storeA (A : AggT P t n) (hl : vs.length = n) (h1 : ∀ u ∈ vs, u.oneCell' = true) (s : St W w (row b o us :: R)) {p : Nat} (hp : p + n ≤ us.length) :
    (storeVar t ⟨b, o + p, none⟩ (.agg vs.toArray)).run P w = .ok () (w.setCells b (o + p) vs) ∧ St W (w.setCells b (o + p) vs) (row b o (splice us p vs) :: R) := by
  have hst := run_storeCells_cells (P := P) b (o + p) vs 0 w (fun j hj => by
      rw [Nat.add_zero, Nat.add_assoc, s.rowCell (List.getElem?_eq_getElem (by omega : p + j < us.length))]; rfl)
    (fun j hj => by rw [Nat.add_zero, Nat.add_assoc]; exact s.rowFree (by omega)) h1
  rw [Nat.add_zero] at hst
  refine ⟨?_, s.setPart (by omega)⟩
  simp [storeVar, run_sizeA A, Value.cells, hl, hst]

theorem splice_all (h : vs.length = us.length) : splice us 0 vs = vs := by
  unfold splice; rw [List.take_zero, List.nil_append, Nat.zero_add, h, List.drop_length, List.append_nil]

variable {ops : Array Oper} {rest : List Oper} {q : Oper} {A : Act} {Q : Exit → Act → World → Prop} {KK : Act → World → Prop} {EE : Prop}

theorem wpl_loadA (hgd : q.guard = none) (x : Operand) (hop : q.op = Op.load t x) (T : AggT P t n) (hx : A.eval x = .pointer (some ⟨b, o, none⟩)) (hl : vs.length = n) (hc : ∀ j u, vs[j]? = some u → w.cell? ⟨b, o + j, none⟩ = some u)
    (hK : wpList P ops Q rest (A.put q.dst (.agg vs.toArray)) w) : wpList P ops Q (q :: rest) A w := by
  refine wpList_plain hgd fun K hK' => ?_
  unfold Oper.wp
  simp [execOp, hop, hx, Instr.loadAt, Instr.sureAddr, run_loadA T hl hc, Result.andThen]
  exact hK' _ _ hK

theorem wpl_storeA (hgd : q.guard = none) (x y : Operand) (hop : q.op = Op.store t x y) (T : AggT P t n) (hx : A.eval x = .pointer (some ⟨b, o, none⟩)) (hy : A.eval y = .agg vs.toArray) (hl : vs.length = n) (h1 : ∀ u ∈ vs, u.oneCell' = true)
    (s : St W w (row b o us :: R)) (hp : us.length = n) (hK : ∀ w', St W w' (row b o vs :: R) → wpList P ops Q rest (A.put q.dst undef) w') : wpList P ops Q (q :: rest) A w := by
  refine wpList_plain hgd fun K hK' => ?_
  obtain ⟨h2, s2⟩ := run_storeA T hl h1 s (p := 0) (by omega)
  rw [splice_all (by omega)] at s2
  unfold Oper.wp
  have h2' : (storeVar t ⟨b, o, none⟩ (.agg vs.toArray)).run P w = .ok () (w.setCells b (o + 0) vs) := h2
  simp [execOp, hop, hx, hy, Instr.storeAt, Instr.sureAddr, h2', Result.andThen]
  exact hK' _ _ (hK _ s2)

theorem wpl_boxA (hgd : q.guard = none) (x : Operand) (hop : q.op = Op.box t x) (hx : A.eval x = .agg vs.toArray) (s : St W w R)
    (hK : ∀ b' w', St W w' (row b' 0 vs :: R) → wpList P ops Q rest (A.put q.dst (.pointer (some ⟨b', 0, none⟩))) w') : wpList P ops Q (q :: rest) A w := by
  refine wpList_plain hgd fun K hK' => ?_
  unfold Oper.wp
  have := s.alloc vs.toArray t
  simp [execOp, hop, hx, Instr.box, newVar, newRow, Value.cells, Result.andThen]
  exact hK' _ _ (hK _ _ (by simpa using this))

theorem wpl_allocA (hgd : q.guard = none) (hop : q.op = Op.alloc t) (hz : ∀ w, (zeroValue t).run P w = .ok (.agg vs.toArray) w) (s : St W w R)
    (hK : ∀ b' w', St W w' (row b' 0 vs :: R) → wpList P ops Q rest (A.put q.dst (.pointer (some ⟨b', 0, none⟩))) w') : wpList P ops Q (q :: rest) A w := by
  refine wpList_plain hgd fun K hK' => ?_
  unfold Oper.wp
  have := s.alloc vs.toArray t
  simp [execOp, hop, Instr.alloc, newVar, newRow, Value.cells, Result.andThen, hz]
  exact hK' _ _ (hK _ _ (by simpa using this))

/-! ### For the walk's simp: a load or a store of an aggregate as ONE step. Take 'execOp_loadG t', 'execOp_storeG t' as local rows of go_sem ('↓'), name 'LoadsG P w t b vs' among a drawn region's facts; a store's law is 'run_storeG'. -/
def loadG (t : TypeId) (a : Value) : Sem Value := Instr.loadAt t a
def storeG (t : TypeId) (a x : Value) : Sem Unit := Instr.storeAt t a x

theorem run_loadG (T : AggT P t n) (hl : vs.length = n) (hc : ∀ j u, vs[j]? = some u → w.cell? ⟨b, o + j, none⟩ = some u) : (loadG t (.pointer (some ⟨b, o, none⟩))).run P w = .ok (.agg vs.toArray) w := by
  simp [loadG, Instr.loadAt, Instr.sureAddr, run_loadA T hl hc]

/-- Cells that a store of n of them may hit. -/
def roomG (w : World) (b o n : Nat) : Prop := ∀ j, j < n → (w.cell? ⟨b, o + j, none⟩).isSome = true ∧ w.frozen? ⟨b, o + j, none⟩ = false
def oneG (vs : List Value) (n : Nat) : Prop := vs.length = n ∧ ∀ u ∈ vs, u.oneCell' = true

theorem St.roomG (s : St W w (row b o us :: R)) (h : us.length = n) : roomG w b o n := fun j hj => by
  have h1 := s.rowCell (List.getElem?_eq_getElem (by omega : j < us.length))
  exact ⟨by rw [h1]; rfl, s.rowFree (by omega)⟩

theorem run_storeG (T : AggT P t n) (hr : Qd.roomG w b o n) (ho : oneG vs n) : (storeG t (.pointer (some ⟨b, o, none⟩)) (.agg vs.toArray)).run P w = .ok () (w.setCells b o vs) := by
  have hst := run_storeCells_cells (P := P) b o vs 0 w (fun j hj => by
      rw [Nat.add_zero]; exact (hr j (by have := ho.1; omega)).1)
    (fun j hj => by rw [Nat.add_zero]; exact (hr j (by have := ho.1; omega)).2) ho.2
  rw [Nat.add_zero] at hst
  have hl := ho.1
  have h2 : (storeVar t ⟨b, o, none⟩ (.agg vs.toArray)).run P w = .ok () (w.setCells b o vs) := by
    simp [storeVar, run_sizeA T, Value.cells, hl, hst]
  simp [storeG, Instr.storeAt, Instr.sureAddr, h2]

theorem St.setAll (s : St W w (row b o us :: R)) (h : vs.length = us.length) : St W (w.setCells b o vs) (row b o vs :: R) := by
  have := s.setPart (xs := vs) (p := 0) (by omega)
  rwa [splice_all h] at this

/-- A part of a row, cell by cell. -/
theorem St.rowPart (s : St W w (row b o us :: R)) (p : Nat) {xs ys : List Value} (h : us.drop p = xs ++ ys) : ∀ j u, xs[j]? = some u → w.cell? ⟨b, o + p + j, none⟩ = some u := fun j u hu => by
  rw [Nat.add_assoc]
  refine s.rowCell ?_
  rw [← List.getElem?_drop, h, List.getElem?_append_left]
  · exact hu
  · rcases Nat.lt_or_ge j xs.length with g | g
    · exact g
    · rw [List.getElem?_eq_none g] at hu; cases hu

theorem St.rowAll (s : St W w (row b o us :: R)) : ∀ j u, us[j]? = some u → w.cell? ⟨b, o + j, none⟩ = some u := fun _ _ hu => s.rowCell hu

end

end Go.Qd

/- Laws for an operation whose guard says yes. -/
namespace Go.Qd
open Go.RowKit

section
variable {P : Program} {W w : World} {R : List HP} {t : TypeId} {n b o : Nat} {vs us : List Value}
variable {ops : Array Oper} {rest : List Oper} {q : Oper} {A : Act} {Q : Exit → Act → World → Prop}

end

end Go.Qd

/- A region that draws its order, walked once in the text's order, in a class of worlds: the callees may write, as long as the class holds. -/
namespace Go.Qd
open Go.RowKit

/-- A world of a class. -/
structure Cls (S : World → Prop) where
  w : World
  h : S w

theorem wp_region_class {P : Program} {id : Nat} {Q : Exit → Act → World → Prop} {a : Act} {w : World} {l : List Oper} (S : World → Prop) (hm : P.follows .mixedOrders = true) (hB : Region.lexB .any l.toArray = true) (hS : S w.drew)
    (h : wpQuiet P l.toArray (fun w' => ∃ s : Cls S, w' = s.w) (fun a' => ∀ s : Cls S, Q .normal a' s.w) l a) : (Code.region id l.toArray true).wp P Q a w := by
  refine wp_region_quiet (C := fun w' => ∃ s : Cls S, w' = s.w) hm hB ⟨⟨w.drew, hS⟩, rfl⟩ ?_
  have e : (fun a' => ∀ w', (∃ s : Cls S, w' = s.w) → Q .normal a' w') = (fun a' => ∀ s : Cls S, Q .normal a' s.w) := by
    funext a'
    exact propext ⟨fun h s => h s.w ⟨s, rfl⟩, fun h w' ⟨s, e⟩ => e ▸ h s⟩
  rw [e]
  simpa using h

theorem Cls.inh {S : World → Prop} {w : World} (h : S w) : Nonempty (Cls S) := ⟨⟨w, h⟩⟩
/-- A callee's end, in the class. -/
theorem Cls.end {S : World → Prop} {w : World} (v : Value) (h : S w) : (Ending.returned v = .returned v) ∧ ∃ s : Cls S, w = s.w := ⟨rfl, ⟨w, h⟩, rfl⟩

section
variable {P : Program} {w : World} {ops : Array Oper} {rest : List Oper} {q : Oper} {A : Act} {Q : Exit → Act → World → Prop} {v : Value}

/-- A literal whose zero value is out of simp's reach: its value by evaluation. -/
theorem wpl_build {t : TypeId} {fs : Array (Nat × Operand)} (hgd : q.guard = none) (_hop : q.op = Op.build t fs) (h : (execOp A.eval q).run P w = .ok (.value v) w) (hK : wpList P ops Q rest (A.put q.dst v) w) : wpList P ops Q (q :: rest) A w := by
  refine wpList_plain hgd fun K hK' => ?_
  unfold Oper.wp
  simp only [h]
  exact hK' _ _ hK

theorem run_index1 {t e : TypeId} {len : Nat} (hu : P.underlying t = some (.array len e)) (he : (isAgg e).run P w = .ok false w) (hs : (P.info? e).map (·.size) = some 1) {vs : List Value} {k : Nat} (hk : k < len) (hv : vs[k]? = some v) :
    (Instr.index t (.agg vs.toArray) (.int .i64 k)).run P w = .ok v w := by
  obtain ⟨i, hi, hz⟩ : ∃ i, P.info? e = some i ∧ i.size = 1 := by
    cases h : P.info? e with
    | none => rw [h] at hs; cases hs
    | some i => rw [h] at hs; exact ⟨i, rfl, by simpa using hs⟩
  have hso : (sizeOf e).run P w = .ok 1 w := by rw [run_sizeOf w hi]; simp [Program.cellsOf, hi, hz]
  simp [Instr.index, asIntOf, run_underlying hu, hso, part, he, hv]
  omega

theorem run_index2 {t e : TypeId} {len sz : Nat} (hu : P.underlying t = some (.array len e)) (T : AggT P e sz) {vs xs : List Value} {k : Nat} (hk : k < len) (hx : (vs.drop (k * sz)).take sz = xs) :
    (Instr.index t (.agg vs.toArray) (.int .i64 k)).run P w = .ok (.agg xs.toArray) w := by
  have hso := run_sizeA T w
  have hag := run_isAgg T w
  simp [Instr.index, asIntOf, run_underlying hu, hso, part, hag, hx, hk]

theorem wpl_index {t : TypeId} (hgd : q.guard = none) (x ix : Operand) (hop : q.op = Op.index t x ix) {X I : Value} (hx : A.eval x = X) (hi : A.eval ix = I) (h : (Instr.index t X I).run P w = .ok v w)
    (hK : wpList P ops Q rest (A.put q.dst v) w) : wpList P ops Q (q :: rest) A w := by
  refine wpList_plain hgd fun K hK' => ?_
  unfold Oper.wp
  simp [execOp, hop, hx, hi, h, Result.andThen]
  exact hK' _ _ hK

end

end Go.Qd

/- A region walked once in a class of worlds: what a false '&&' skips, by evaluation. -/
namespace Go.Qd
open Go.RowKit

section
variable {P : Program} {ops : Array Oper} {C : World → Prop} {Q : Act → Prop} {a : Act} {o : Oper} {rest : List Oper}

end

end Go.Qd

/- A region that draws its order: a head that is walked once in a class of worlds (loads, calls whose worlds stay in the class), then a tail in one forced order (a store, an append, ..) from any world of the class. -/
namespace Go.Qd
open Go.RowKit

section
variable {P : Program} {ops : Array Oper} {md : Region.Mode} {C : World → Prop}

def wpAnyLQ (P : Program) (md : Region.Mode) (ops : Array Oper) (C : World → Prop) (n : Nat) (L : Array Bool → Act → Prop) : Nat → Array Bool → Act → Prop
  | 0, listed, a => L listed a
  | f + 1, listed, a =>
    Region.ready md ops listed ≠ [] ∧ ∀ i ∈ Region.ready md ops listed, i < n ∧ qOp P ops C i (wpAnyLQ P md ops C n L f (listed.setIfInBounds i true)) a

theorem wpAny_of_headQ {n g : Nat} {L : Array Bool → Act → Prop} {Q' : Exit → Act → World → Prop} (hL : ∀ listed a w, C w → L listed a → wpAny P md ops Q' g listed a w) :
    ∀ (f : Nat) (listed : Array Bool) (a : Act) (w : World), C w → wpAnyLQ P md ops C n L f listed a → wpAny P md ops Q' (f + g) listed a w
  | 0, listed, a, w, hw, h => by rw [Nat.zero_add]; exact hL _ _ _ hw h
  | f + 1, listed, a, w, hw, h => by
    rw [show f + 1 + g = (f + g) + 1 by omega]
    exact ⟨fun h0 => absurd h0 h.1, fun i hi => wpOp_of_qOp hw (fun a' w' hw' h' => wpAny_of_headQ hL f _ a' w' hw' h') (h.2 i hi).2⟩

theorem wpAnyLQ_first {n i : Nat} {oi : Oper} {v : Value} {L : Array Bool → Act → Prop} (hi : ops[i]? = some oi) (hsel : ∀ (j : Nat) (o : Oper) cs b, ops[j]? = some o → o.op ≠ .select cs b)
    (hs : Region.sinkB md ops n = true) (hc : Region.chainB md ops n = true) (hn : n < ops.size) (hin : i < n)
    (hdone : ∀ listed a, L listed a → ∀ j ∈ Region.ready md ops listed, n ≤ j) :
    ∀ (f : Nat) (listed : Array Bool) (a : Act), HeadInv md ops n listed →
      (∀ j oj, ops[j]? = some oj → j ≠ i → listed.getD j true = false → (∀ e ∈ oj.after, Region.binds md e = true → e.on ≠ i) → oi.apart ops oj = true) →
      i ∈ Region.ready md ops listed → YieldsIn P ops C oi v a →
      wpAnyLQ P md ops C n L f (listed.setIfInBounds i true) (a.put oi.dst v) → wpAnyLQ P md ops C n L (f + 1) listed a := by
  intro f
  induction f with
  | zero =>
    intro listed a inv _ hr hy H
    have hun := (mem_ready.1 hr).1
    refine ⟨fun h => (by rw [h] at hr; cases hr), fun j hj => ?_⟩
    have hjn : j < n := by
      rcases Nat.lt_or_ge j n with h | h
      · exact h
      · exact absurd hj (tail_waits hs hc hn inv _ i rfl hin hun j h)
    refine ⟨hjn, ?_⟩
    by_cases hji : j = i
    · subst hji; exact hy.qOp hi H
    · have := hdone _ _ H j (ready_mono hj hji)
      omega
  | succ f ih =>
    intro listed a inv hfree hr hy H
    have hun := (mem_ready.1 hr).1
    refine ⟨fun h => (by rw [h] at hr; cases hr), fun j hj => ?_⟩
    have hjn : j < n := by
      rcases Nat.lt_or_ge j n with h | h
      · exact h
      · exact absurd hj (tail_waits hs hc hn inv _ i rfl hin hun j h)
    refine ⟨hjn, ?_⟩
    by_cases hji : j = i
    · subst hji; exact hy.qOp hi H
    · have h1 := (H.2 j (ready_mono hj hji)).2
      obtain ⟨hjun, oj, hoj, hall⟩ := mem_ready.1 hj
      have hnot : ∀ e ∈ oj.after, Region.binds md e = true → e.on ≠ i := fun e he hb heq => by
        have h1 := hall e he hb
        rw [heq, getD_both hun] at h1
        cases h1
      have h2 := qOp_put hoj (hfree j oj hoj hji hjun hnot) (fun cs b => hsel i oi cs b hi) (fun cs b => hsel j oj cs b hoj) hy h1
      have hfree' : ∀ k ok, ops[k]? = some ok → k ≠ i → (listed.setIfInBounds j true).getD k true = false →
          (∀ e ∈ ok.after, Region.binds md e = true → e.on ≠ i) → oi.apart ops ok = true := fun k ok hk hki hun hno => by
        refine hfree k ok hk hki ?_ hno
        by_cases hjk : j = k
        · subst hjk; exact hjun
        · rw [getD_set_ne true hjk] at hun; exact hun
      refine qOp_mono (fun a' h3 => ih (listed.setIfInBounds j true) a' (inv.set hj hjn) hfree' (ready_mono hr (Ne.symm hji)) h3.1 ?_) h2
      rw [Array.setIfInBounds_comm _ _ hji]
      exact h3.2

theorem wpAnyLQ_lex {n g : Nat} {Lq : Act → Prop} (hsel : Region.noSelect ops = true) (hs : Region.sinkB md ops n = true) (hc : Region.chainB md ops n = true) (hn : n < ops.size) :
    ∀ (l : List Oper) (k : Nat) (listed : Array Bool) (a : Act), (∀ j, j < l.length → l[j]? = ops[k + j]?) → k + l.length = n → HeadInv md ops n listed →
    Region.lexHead md ops g l.length k listed = true → wpQuiet P ops C Lq l a →
    wpAnyLQ P md ops C n (fun listed' a' => Region.seqB md ops g n listed' = true ∧ Lq a') l.length listed a
  | [], k, listed, a, _, hk, _, hB, h => by
    have : k = n := by simpa using hk
    subst this
    exact ⟨by simpa [Region.lexHead] using hB, h⟩
  | o :: l, k, listed, a, hl, hk, inv, hB, h => by
    have h0 : ops[k]? = some o := by simpa using (hl 0 (by simp)).symm
    simp only [List.length_cons, Region.lexHead, Bool.and_eq_true] at hB
    obtain ⟨⟨hr, hf⟩, hB'⟩ := hB
    have hkn : k < n := by simp only [List.length_cons] at hk; omega
    have hr' : k ∈ Region.ready md ops listed := by simpa using hr
    have hst : qOp P ops C k (wpQuiet P ops C Lq l) a := by unfold qOp; simp only [h0]; exact h
    obtain ⟨v, hy, hK⟩ := yieldsIn_of_qOp h0 hst
    exact wpAnyLQ_first h0 (Region.noSelect_spec hsel) hs hc hn hkn (fun listed' a' hL => seqB_ready hL.1) l.length listed a inv (Region.free_spec h0 hf) hr' hy
      (wpAnyLQ_lex hsel hs hc hn l (k + 1) _ _ (fun j hj => by have := hl (j + 1) (by simp; omega); simpa [Nat.add_assoc, Nat.add_comm 1 j] using this) (by simp only [List.length_cons] at hk; omega) (inv.set hr' hkn) hB' hK)

/-- The head in a class, the tail in its order. -/
theorem wp_region_class_tail {id : Nat} {Q : Exit → Act → World → Prop} {a : Act} {w : World} {l : List Oper} (S : World → Prop) (n : Nat) (hm : P.follows .mixedOrders = true) (hB : Region.lexTailB .any l.toArray n = true) (hS : S w.drew)
    (h : wpQuiet P l.toArray (fun w' => ∃ s : Cls S, w' = s.w) (fun a' => ∀ s : Cls S, wpList P l.toArray Q (l.drop n) a' s.w) (l.take n) a) : (Code.region id l.toArray true).wp P Q a w := by
  simp only [Region.lexTailB, Bool.and_eq_true, decide_eq_true_eq] at hB
  obtain ⟨⟨⟨⟨hsel, hn⟩, hs⟩, hc⟩, hlex⟩ := hB
  have hn' : n < l.length := by simpa using hn
  have htl : (l.take n).length = n := by simp; omega
  have hdl : (l.drop n).length = l.toArray.size - n := by simp
  have inv0 : HeadInv .any l.toArray n (Array.replicate l.toArray.size false) :=
    ⟨by simp, fun j oj _ hl => (by rw [getD_replicate_false] at hl; cases hl), fun t _ ht => getD_in (by simpa using ht) (getD_replicate_false _ _)⟩
  have H := wpAnyLQ_lex (C := fun w' => ∃ s : Cls S, w' = s.w) (md := .any) (g := l.toArray.size - n) hsel hs hc hn (l.take n) 0 _ a (fun j hj => by
    have hj' : j < n := by rw [htl] at hj; exact hj
    simp [hj']) (by simpa using htl) inv0 (by rw [htl]; exact hlex) h
  refine wp_region_any hm ?_
  have := wpAny_of_headQ (C := fun w' => ∃ s : Cls S, w' = s.w) (Q' := Q) (g := l.toArray.size - n) (fun listed a' w' hw hL => by
    obtain ⟨s, rfl⟩ := hw
    have := wpAny_of_seq (md := .any) (Q' := Q) (l.drop n) n listed a' s.w (fun j => by simp [List.getElem?_drop]) (by rw [hdl]; exact hL.1) (hL.2 s)
    rwa [hdl] at this) _ _ _ w.drew ⟨⟨w.drew, hS⟩, rfl⟩ H
  rw [htl, show n + (l.toArray.size - n) = l.toArray.size by omega] at this
  exact this

end
end Go.Qd
