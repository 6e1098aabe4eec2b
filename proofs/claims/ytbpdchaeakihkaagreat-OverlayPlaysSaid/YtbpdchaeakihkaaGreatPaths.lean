/- Paths: several texts, joined. The overlay's laws, plain: what an act is made of; what each part keeps. -/
import Derived.Test.YtbpdchaeakihkaaGreatRuns
import Derived.Test.YtbpdchaeakihkaaGreatBeatL
import Derived.Test.YtbpdchaeakihkaaGreatSpkA
namespace Go.Proofs.YtbpdchaeakihkaaGreat
open Go.RowKit Go.Qd

/-! Nodes, views. -/
def InN (O : OV) : Prop := (∀ x ∈ O.V.a, onodeB O x = true) ∧ ∀ x ∈ O.V.p, onodeB O x = true
theorem onode_iff {O : OV} {p : Int} : onodeB O p = true ↔ 0 ≤ p ∧ p < O.cfg.getD 0 0 ∧ p ≠ O.V.self := by
  unfold onodeB thereB
  simp only [Bool.and_eq_true, decide_eq_true_eq, and_assoc]
theorem onode_same {O P : OV} (hc : P.cfg = O.cfg) (hs : P.V.self = O.V.self) (p : Int) : onodeB P p = onodeB O p := by unfold onodeB thereB; rw [hc, hs]

theorem raiseV_same (V : VV) (D : List Int) (q : Int) : (raiseV V D q).self = V.self ∧ (raiseV V D q).am = V.am ∧ (raiseV V D q).pm = V.pm := by unfold raiseV; split <;> exact ⟨rfl, rfl, rfl⟩
theorem lowerV_same (V : VV) (D : List Int) (q : Int) : (lowerV V D q).self = V.self ∧ (lowerV V D q).am = V.am ∧ (lowerV V D q).pm = V.pm := by unfold lowerV; split <;> exact ⟨rfl, rfl, rfl⟩
theorem learnV_same (V : VV) (D : List Int) (q : Int) : (learnV V D q).self = V.self ∧ (learnV V D q).am = V.am ∧ (learnV V D q).pm = V.pm := by unfold learnV; split <;> exact ⟨rfl, rfl, rfl⟩

theorem raiseV_mem {V : VV} (hV : VOK V) {D : List Int} {q x : Int} (h : x ∈ (raiseV V D q).a ∨ x ∈ (raiseV V D q).p) : (x ∈ V.a ∨ x ∈ V.p) ∨ (x = q ∧ raiseOk V q = true) := by
  unfold raiseV at h
  by_cases hr : raiseOk V q = true
  · rw [if_pos hr] at h
    rcases h with h | h
    · rcases addL_mem.1 h with g | ⟨g, _⟩
      · exact .inr ⟨g, hr⟩
      · exact .inl (.inl g)
    · have h' : x ∈ (if 0 ≤ raiseG V D then addL (raiseD1 V D) (dropL V.p q) V.pm (raiseG V D) else dropL V.p q) := h
      by_cases h0 : 0 ≤ raiseG V D
      · rw [if_pos h0] at h'
        rcases addL_mem.1 h' with g | ⟨g, _⟩
        · left; left; rw [g]; exact (raiseG_full hV ((raiseG_iff hV).1 h0)).2.1
        · exact .inl (.inr (mem_dropL.1 g).1)
      · rw [if_neg h0] at h'
        exact .inl (.inr (mem_dropL.1 h').1)
  · rw [if_neg hr] at h; exact .inl h
theorem lowerV_mem {V : VV} {D : List Int} {q x : Int} (h : x ∈ (lowerV V D q).a ∨ x ∈ (lowerV V D q).p) : x ∈ V.a ∨ x ∈ V.p := by
  unfold lowerV at h
  by_cases hr : memB V.a q = true
  · rw [if_pos hr] at h
    rcases h with h | h
    · exact .inl (mem_dropL.1 h).1
    · rcases addL_mem.1 h with g | ⟨g, _⟩
      · left; rw [g]; exact memB_iff.1 hr
      · exact .inr g
  · rw [if_neg hr] at h; exact h
theorem learnV_mem {V : VV} {D : List Int} {q x : Int} (h : x ∈ (learnV V D q).a ∨ x ∈ (learnV V D q).p) : (x ∈ V.a ∨ x ∈ V.p) ∨ (x = q ∧ learnOk V q = true) := by
  unfold learnV at h
  by_cases hr : learnOk V q = true
  · rw [if_pos hr] at h
    rcases h with h | h
    · exact .inl (.inl h)
    · rcases addL_mem.1 h with g | ⟨g, _⟩
      · exact .inr ⟨g, hr⟩
      · exact .inl (.inr g)
  · rw [if_neg hr] at h; exact .inl h

/-! Messages that may be. -/
structure MsgOK (m : MsgV) : Prop where
  k : 1 ≤ m.kind ∧ m.kind ≤ 9
  z : m.number = 0 ∧ m.sum = 0 ∧ m.mc = 0 ∧ m.ms = 0 ∧ m.key.toList = [] ∧ m.mn = 0 ∧ m.en = 0
  p : 0 ≤ m.peer ∧ m.peer < 12
  h : 0 ≤ m.hops ∧ m.hops ≤ 8
  l : m.ps.length ≤ 8
  n : ∀ x ∈ m.ps, 0 ≤ x ∧ x < 12
  f1 : m.kind ≠ 2 → m.kind ≠ 7 → m.peer = 0 ∧ m.hops = 0
  f2 : m.kind ≠ 3 → m.high = false
  f3 : m.kind ≠ 7 → m.kind ≠ 8 → m.ps = []
def LetOK (O : OV) (x : LetV) : Prop := onodeB O x.to = true ∧ MsgOK x.m
theorem kindM_ok {k : Int} (h : 1 ≤ k ∧ k ≤ 9) : MsgOK (kindM k) :=
  ⟨h, ⟨rfl, rfl, rfl, rfl, by show ByteArray.empty.toList = []; first | rfl | decide | simp | kernel_rfl, rfl, rfl⟩, ⟨Int.le_refl 0, by show (0 : Int) < 12; decide⟩, ⟨Int.le_refl 0, by show (0 : Int) ≤ 8; decide⟩, by show ([] : List Int).length ≤ 8; decide, fun _ h => (by cases h), fun _ _ => ⟨rfl, rfl⟩, fun _ => rfl, fun _ _ => rfl⟩

/-! What an act is made of. -/
inductive Prim : Nat → OV → OV → Prop
  | raise {O : OV} (p : Int) (hp : onodeB O p = true) : Prim 0 O (raiseO O p)
  | lower {O : OV} (p : Int) : Prim 0 O (lowerO O p)
  | learn {O : OV} (p : Int) (hp : thereB O p = true) : Prim 0 O (learnO O p)
  | heard0 {O : OV} (p : Int) : Prim 0 O { O with heard := O.heard.set p.toNat 0 }
  | count {O : OV} (p : Int) : Prim 1 O (countO O p)
  | asked {O : OV} (a : Int) (h : a = -1 ∨ O.since ≤ 3) : Prim 0 O { O with asked := a }
  | since {O : OV} (s : Int) (h : 0 ≤ s ∧ s ≤ 4 ∧ (O.asked ≠ -1 → s ≤ 3)) : Prim 0 O { O with since := s }
  | ticks {O : OV} : Prim 1 O { O with ticks := O.ticks + 1 }
  | dice {O : OV} (D : List Int) : Prim 0 O { O with D := D }
  | send {O : OV} (x : LetV) (h : LetOK O x) : Prim 0 O { O with L := O.L ++ [x] }
inductive Path : Nat → OV → OV → Prop
  | refl (O : OV) : Path 0 O O
  | step {n k : Nat} {O P Q : OV} (h : Path n O P) (g : Prim k P Q) : Path (n + k) O Q
theorem Path.one {k : Nat} {O P : OV} (g : Prim k O P) : Path k O P := by have := Path.step (.refl O) g; rwa [Nat.zero_add] at this
theorem Path.trans {n m : Nat} {O P Q : OV} (h : Path n O P) (g : Path m P Q) : Path (n + m) O Q := by
  induction g with
  | refl => exact h
  | step _ g ih => rw [← Nat.add_assoc]; exact .step (ih h) g
theorem Path.then {n : Nat} {O P Q : OV} (h : Path n O P) (g : Prim 0 P Q) : Path n O Q := .step h g
theorem Path.thenP {n : Nat} {O P Q : OV} (h : Path n O P) (g : Path 0 P Q) : Path n O Q := by have := h.trans g; rwa [Nat.add_zero] at this

/-! What is kept. -/
structure Same (O P : OV) : Prop where
  c : P.cfg = O.cfg
  s : P.V.self = O.V.self
  a : P.V.am = O.V.am
  p : P.V.pm = O.V.pm
theorem Same.refl (O : OV) : Same O O := ⟨rfl, rfl, rfl, rfl⟩
theorem Same.trans {O P Q : OV} (h : Same O P) (g : Same P Q) : Same O Q := ⟨g.c.trans h.c, g.s.trans h.s, g.a.trans h.a, g.p.trans h.p⟩
theorem raiseO_V (O : OV) (p : Int) : (raiseO O p).V = raiseV O.V O.D p ∧ (raiseO O p).cfg = O.cfg := by
  unfold raiseO
  by_cases h : raiseOk O.V p = true
  · rw [if_pos h]; exact ⟨rfl, rfl⟩
  · rw [if_neg h]; unfold raiseV; rw [if_neg h]; exact ⟨rfl, rfl⟩
theorem lowerO_V (O : OV) (p : Int) : (lowerO O p).V = lowerV O.V O.D p ∧ (lowerO O p).cfg = O.cfg := by
  unfold lowerO
  by_cases h : memB O.V.a p = true
  · rw [if_pos h]; exact ⟨rfl, rfl⟩
  · rw [if_neg h]; unfold lowerV; rw [if_neg h]; exact ⟨rfl, rfl⟩
theorem Prim.same {k : Nat} {O P : OV} (g : Prim k O P) : Same O P := by
  cases g with
  | raise p _ => obtain ⟨h1, h2⟩ := raiseO_V O p; obtain ⟨a, b, c⟩ := raiseV_same O.V O.D p; exact ⟨h2, by rw [h1, a], by rw [h1, b], by rw [h1, c]⟩
  | lower p => obtain ⟨h1, h2⟩ := lowerO_V O p; obtain ⟨a, b, c⟩ := lowerV_same O.V O.D p; exact ⟨h2, by rw [h1, a], by rw [h1, b], by rw [h1, c]⟩
  | learn p _ => obtain ⟨a, b, c⟩ := learnV_same O.V O.D p; exact ⟨rfl, a, b, c⟩
  | _ => exact ⟨rfl, rfl, rfl, rfl⟩
theorem Path.same {n : Nat} {O P : OV} (h : Path n O P) : Same O P := by
  induction h with
  | refl => exact .refl _
  | step _ g ih => exact ih.trans g.same

/-- An overlay that is whole. -/
structure WOK (O : OV) : Prop where
  ok : OOK O
  n : InN O
theorem Prim.wok {k : Nat} {O P : OV} (g : Prim k O P) (h : WOK O) : WOK P := by
  have hs := g.same
  have tr : ∀ x, onodeB O x = true → onodeB P x = true := fun x hx => by rw [onode_same hs.c hs.s]; exact hx
  cases g with
  | raise p hp =>
    have hv := (raiseO_V O p).1
    refine ⟨h.ok.raise p, fun x hx => tr x ?_, fun x hx => tr x ?_⟩
    · rw [hv] at hx
      rcases raiseV_mem h.ok.v (.inl hx) with (g | g) | ⟨rfl, _⟩
      · exact h.n.1 x g
      · exact h.n.2 x g
      · exact hp
    · rw [hv] at hx
      rcases raiseV_mem h.ok.v (.inr hx) with (g | g) | ⟨rfl, _⟩
      · exact h.n.1 x g
      · exact h.n.2 x g
      · exact hp
  | lower p =>
    have hv := (lowerO_V O p).1
    refine ⟨h.ok.lower p, fun x hx => tr x ?_, fun x hx => tr x ?_⟩
    · rw [hv] at hx
      rcases lowerV_mem (.inl hx) with g | g
      · exact h.n.1 x g
      · exact h.n.2 x g
    · rw [hv] at hx
      rcases lowerV_mem (.inr hx) with g | g
      · exact h.n.1 x g
      · exact h.n.2 x g
  | learn p hp =>
    have hq : ∀ x, learnOk O.V x = true → x = p → onodeB O x = true := fun x hl e => by
      subst e
      have := (learnOk_iff.1 hl).2.1
      unfold onodeB; rw [hp]; simp [this]
    refine ⟨h.ok.learn p, fun x hx => tr x ?_, fun x hx => tr x ?_⟩
    · rcases learnV_mem (.inl hx) with (g | g) | ⟨rfl, hl⟩
      · exact h.n.1 x g
      · exact h.n.2 x g
      · exact hq _ hl rfl
    · rcases learnV_mem (.inr hx) with (g | g) | ⟨rfl, hl⟩
      · exact h.n.1 x g
      · exact h.n.2 x g
      · exact hq _ hl rfl
  | heard0 p => exact ⟨⟨h.ok.v, h.ok.cl, by show (O.heard.set _ _).length = 12; rw [List.length_set]; exact h.ok.hl, h.ok.r⟩, h.n⟩
  | count p => exact ⟨⟨h.ok.v, h.ok.cl, by show (O.heard.set _ _).length = 12; rw [List.length_set]; exact h.ok.hl, h.ok.r⟩, h.n⟩
  | _ => exact ⟨⟨h.ok.v, h.ok.cl, h.ok.hl, h.ok.r⟩, h.n⟩
theorem Path.wok {n : Nat} {O P : OV} (h : Path n O P) (w : WOK O) : WOK P := by
  induction h with
  | refl => exact w
  | step _ g ih => exact g.wok (ih w)

/-- Numbers within bounds. -/
structure NumOK (O : OV) (k : Int) : Prop where
  hh : ∀ j : Nat, 0 ≤ O.heard.getD j 0 ∧ O.heard.getD j 0 ≤ k
  tk : 0 ≤ O.ticks ∧ O.ticks ≤ k
  si : 0 ≤ O.since ∧ O.since ≤ 4
  sa : O.asked ≠ -1 → O.since ≤ 3
theorem Prim.num {n : Nat} {O P : OV} {k : Int} (g : Prim n O P) (h : NumOK O k) : NumOK P (k + n) := by
  have hk : 0 ≤ k := Int.le_trans h.tk.1 h.tk.2
  cases g with
  | raise p _ =>
    simp only [Int.natCast_zero, Int.add_zero]
    unfold raiseO; split
    · exact ⟨hh_set hk h.hh _ ⟨by omega, hk⟩, h.tk, h.si, h.sa⟩
    · exact h
  | lower p => simp only [Int.natCast_zero, Int.add_zero]; unfold lowerO; split <;> exact ⟨h.hh, h.tk, h.si, h.sa⟩
  | heard0 p => simp only [Int.natCast_zero, Int.add_zero]; exact ⟨hh_set hk h.hh _ ⟨by omega, hk⟩, h.tk, h.si, h.sa⟩
  | count p =>
    have hh1 : ∀ j : Nat, 0 ≤ O.heard.getD j 0 ∧ O.heard.getD j 0 ≤ k + 1 := fun j => ⟨(h.hh j).1, by have := (h.hh j).2; omega⟩
    exact ⟨hh_set (by omega) hh1 _ ⟨by have := (h.hh p.toNat).1; omega, by have := (h.hh p.toNat).2; show _ ≤ k + 1; omega⟩, ⟨h.tk.1, by have := h.tk.2; show O.ticks ≤ k + 1; omega⟩, h.si, h.sa⟩
  | ticks => exact ⟨fun j => ⟨(h.hh j).1, by have := (h.hh j).2; show O.heard.getD j 0 ≤ k + 1; omega⟩, ⟨by have := h.tk.1; show 0 ≤ O.ticks + 1; omega, by have := h.tk.2; show O.ticks + 1 ≤ k + 1; omega⟩, h.si, h.sa⟩
  | since s hs => simp only [Int.natCast_zero, Int.add_zero]; exact ⟨h.hh, h.tk, ⟨hs.1, hs.2.1⟩, hs.2.2⟩
  | asked a ha => simp only [Int.natCast_zero, Int.add_zero]; exact ⟨h.hh, h.tk, h.si, fun h1 => ha.resolve_left h1⟩
  | _ => simp only [Int.natCast_zero, Int.add_zero]; exact ⟨h.hh, h.tk, h.si, h.sa⟩
theorem Path.num {n : Nat} {O P : OV} {k : Int} (h : Path n O P) (w : NumOK O k) : NumOK P (k + n) := by
  induction h with
  | refl => simpa using w
  | step _ g ih => have := g.num (ih w); rwa [Int.add_assoc, ← Int.natCast_add] at this

/-- Letters that may be. -/
def LetsOK (O : OV) : Prop := ∀ x ∈ O.L, LetOK O x
theorem LetOK.same {O P : OV} (h : Same O P) {x : LetV} (g : LetOK O x) : LetOK P x := ⟨by rw [onode_same h.c h.s]; exact g.1, g.2⟩
theorem Prim.lets {k : Nat} {O P : OV} (g : Prim k O P) (w : WOK O) (h : LetsOK O) : LetsOK P := by
  have hs := g.same
  have tr : ∀ x ∈ O.L, LetOK P x := fun x hx => (h x hx).same hs
  cases g with
  | raise p hp =>
    intro x hx
    unfold raiseO at hx
    by_cases hr : raiseOk O.V p = true
    · rw [if_pos hr] at hx
      have hx' : x ∈ (if 0 ≤ raiseG O.V O.D then O.L ++ [⟨raiseG O.V O.D, kindM 6⟩] else O.L) := hx
      by_cases h0 : 0 ≤ raiseG O.V O.D
      · rw [if_pos h0] at hx'
        rcases List.mem_append.1 hx' with g | g
        · exact tr x g
        · have e : x = ⟨raiseG O.V O.D, kindM 6⟩ := by simpa using g
          have hm := (raiseG_full w.ok.v (D := O.D) ((raiseG_iff w.ok.v).1 h0)).2.1
          rw [e]; exact LetOK.same hs ⟨w.n.1 _ hm, kindM_ok (by decide)⟩
      · rw [if_neg h0] at hx'; exact tr x hx'
    · rw [if_neg hr] at hx; exact tr x hx
  | lower p => intro x hx; exact tr x (by unfold lowerO at hx; split at hx <;> exact hx)
  | send y hy =>
    intro x hx
    rcases List.mem_append.1 hx with g | g
    · exact tr x g
    · have e : x = y := by simpa using g
      rw [e]; exact LetOK.same hs hy
  | _ => exact tr
theorem Path.lets {n : Nat} {O P : OV} (h : Path n O P) (w : WOK O) (l : LetsOK O) : LetsOK P := by
  induction h with
  | refl => exact l
  | step h g ih => exact g.lets (h.wok w) (ih w l)
end Go.Proofs.YtbpdchaeakihkaaGreat

/- The overlay's laws, plain: each act is made of parts. -/
namespace Go.Proofs.YtbpdchaeakihkaaGreat
open Go.RowKit Go.Qd

theorem someF_sub : ∀ (k : Nat) (l zs : List Int), (someF k l zs).2.1.length ≤ k ∧ ∀ x ∈ (someF k l zs).2.1, x ∈ zs
  | 0, l, zs => ⟨Nat.le_refl _, fun x h => by simp [someF] at h⟩
  | k + 1, l, zs => by
    by_cases hz : zs = []
    · subst hz; rw [someF_nil]; exact ⟨Nat.zero_le _, fun x h => by cases h⟩
    · rw [someF_step k l zs hz]
      obtain ⟨h1, h2⟩ := someF_sub k (drawL l zs.length) (zs.eraseIdx (drawV l zs.length).toNat)
      refine ⟨by simp only [List.length_cons]; omega, fun x hx => ?_⟩
      rcases List.mem_cons.1 hx with rfl | hx
      · exact pick_mem hz
      · exact List.mem_of_mem_eraseIdx (h2 x hx)

theorem onode_there {O : OV} {p : Int} (h : onodeB O p = true) : thereB O p = true := by unfold onodeB at h; simp only [Bool.and_eq_true] at h; exact h.1
theorem there_lt {O : OV} (h : OOK O) {p : Int} (hp : thereB O p = true) : 0 ≤ p ∧ p < 12 := by
  unfold thereB at hp
  simp only [Bool.and_eq_true, decide_eq_true_eq] at hp
  have := h.nodes
  omega

theorem path_heard {O : OV} {p : Int} (hp : onodeB O p = true) : Path 0 O (heardO O p) := by
  unfold heardO
  by_cases h : memB O.V.a p = true
  · rw [if_pos h]
    exact (Path.one (.heard0 p)).then (.learn p (onode_there hp))
  · rw [if_neg h]; exact Path.one (.learn p (onode_there hp))
theorem path_sends {ls : List LetV} : ∀ {O : OV}, (∀ x ∈ ls, LetOK O x) → Path 0 O { O with L := O.L ++ ls } := by
  induction ls with
  | nil => intro O _; rw [List.append_nil]; exact .refl O
  | cons x ls ih =>
    intro O h
    have h1 := Path.one (Prim.send x (h x (by simp)))
    have h2 := ih (O := { O with L := O.L ++ [x] }) (fun y hy => h y (by simp [hy]))
    have h3 := h1.thenP h2
    have e : O.L ++ [x] ++ ls = O.L ++ x :: ls := by simp
    simp only [e] at h3
    exact h3
theorem path_learnAll {l : List Int} : ∀ {O : OV}, (∀ x ∈ l, thereB O x = true) → Path 0 O (learnAllO O l) := by
  induction l with
  | nil => intro O _; exact .refl O
  | cons x l ih =>
    intro O h
    exact (Path.one (.learn x (h x (by simp)))).thenP (ih (O := learnO O x) (fun y hy => h y (by simp [hy])))
theorem path_raiseSend {O : OV} {p : Int} {m : MsgV} (hp : onodeB O p = true) (hm : MsgOK m) : Path 0 O { raiseO O p with L := (raiseO O p).L ++ [⟨p, m⟩] } := by
  have g := Prim.raise p hp
  exact (Path.one g).then (.send ⟨p, m⟩ (LetOK.same g.same ⟨hp, hm⟩))
theorem path_neighbor {O : OV} {p : Int} (hp : onodeB O p = true) (high : Bool) : Path 0 O (neighborO O p high) := by
  unfold neighborO
  split
  · exact Path.one (.send ⟨p, kindM 5⟩ ⟨hp, kindM_ok (by decide)⟩)
  · exact path_raiseSend hp (kindM_ok (by decide))
theorem path_answer {O : OV} {p : Int} (hp : onodeB O p = true) (yes : Bool) : Path 0 O (answerO O p yes) := by
  unfold answerO
  split
  · split
    · exact (Path.one (.asked (-1) (.inl rfl))).then (Prim.raise (O := { O with asked := -1 }) p hp)
    · exact Path.one (.asked (-1) (.inl rfl))
  · exact .refl O
theorem others_mem {O : OV} {but : List Int} {x : Int} (h : x ∈ othersL O but) : x ∈ O.V.a ∧ x ∉ but := by
  unfold othersL at h
  have := List.mem_filter.1 h
  exact ⟨this.1, memB_false (by simpa using this.2)⟩
theorem cfg_walk {O : OV} (h : OOK O) : 0 ≤ O.cfg.getD 7 0 ∧ O.cfg.getD 7 0 ≤ 8 := by
  have h1 := fine_lo (rightB_iff.1 h.r 7 (by decide))
  have h2 := fine_hi (rightB_iff.1 h.r 7 (by decide))
  simp [leastF] at h1
  simp [mostF] at h2
  simp; omega
theorem cfg_swap {O : OV} (h : OOK O) : 0 ≤ O.cfg.getD 9 0 ∧ O.cfg.getD 9 0 ≤ 8 := by
  have h1 := fine_lo (rightB_iff.1 h.r 9 (by decide))
  have h2 := fine_hi (rightB_iff.1 h.r 9 (by decide))
  simp [leastF] at h1
  simp [mostF] at h2
  simp; omega
theorem fwdM_ok {O : OV} (h : OOK O) {p : Int} (hp : thereB O p = true) : MsgOK (fwdM O p) :=
  ⟨⟨by show (1 : Int) ≤ 2; decide, by show (2 : Int) ≤ 9; decide⟩, (kindM_ok (k := 1) (by decide)).z, there_lt h hp, cfg_walk h, by show ([] : List Int).length ≤ 8; decide, fun _ h => (by cases h), fun h => absurd rfl h, fun _ => rfl, fun _ _ => rfl⟩
theorem path_take1 {O : OV} (w : WOK O) {p : Int} (hp : onodeB O p = true) : Path 0 O (take1O O p) := by
  have h1 := path_heard hp
  have w1 := h1.wok w
  have hp1 : onodeB (heardO O p) p = true := by rw [onode_same h1.same.c h1.same.s]; exact hp
  have h2 : Path 0 O (joinedO O p) := h1.then (.raise p hp1)
  have w2 := h2.wok w
  have hp2 : onodeB (joinedO O p) p = true := by rw [onode_same h2.same.c h2.same.s]; exact hp
  refine h2.thenP (path_sends fun x hx => ?_)
  unfold fwdL at hx
  obtain ⟨q, hq, rfl⟩ := List.mem_map.1 hx
  exact ⟨w2.n.1 q (others_mem hq).1, fwdM_ok w2.ok (onode_there hp2)⟩

theorem path_pass {O : OV} (w : WOK O) {m : MsgV} {nx : List Int} (hnx : ∀ x ∈ nx, x ∈ O.V.a) (hne : nx ≠ []) (hm : MsgOK m) (hk : m.kind = 2 ∨ m.kind = 7) (h0 : m.hops ≠ 0) (pa : Option Addr) (pn pc : Nat) : Path 0 O (passO O m nx pa pn pc) := by
  unfold passO
  refine (Path.one (.dice (drawL O.D nx.length))).then (Prim.send (O := { O with D := drawL O.D nx.length }) ⟨pickV O.D nx, onM m pa pn pc⟩ ⟨w.n.1 _ (hnx _ (pick_mem hne)), ?_⟩)
  have := hm.h
  exact ⟨hm.k, hm.z, hm.p, ⟨by show 0 ≤ m.hops - 1; omega, by show m.hops - 1 ≤ 8; omega⟩, hm.l, hm.n, fun h1 h2 => by rcases hk with h | h; exact absurd h h1; exact absurd h h2, hm.f2, hm.f3⟩
theorem nbM_ok : MsgOK nbM := ⟨by decide, (kindM_ok (k := 1) (by decide)).z, by decide, by decide, by show ([] : List Int).length ≤ 8; decide, fun _ h => (by cases h), fun _ _ => ⟨rfl, rfl⟩, fun h => absurd rfl h, fun _ _ => rfl⟩
theorem fwdN_mem {O : OV} {p x : Int} {m : MsgV} (h : x ∈ fwdN O p m) : x ∈ O.V.a := (others_mem h).1
theorem onode_of {O : OV} {p : Int} (h : thereB O p = true) (hs : p ≠ O.V.self) : onodeB O p = true := by unfold onodeB; rw [h]; simp [hs]
theorem path_forward {O : OV} (w : WOK O) {p : Int} {m : MsgV} (hm : MsgOK m) (hk : m.kind = 2) (hpe : thereB O m.peer = true) (pa : Option Addr) (pc : Nat) : Path 0 O (forwardO O p m pa pc) := by
  unfold forwardO
  split
  · exact .refl O
  · rename_i hs
    have hp := onode_of hpe hs
    split
    · split
      · exact .refl O
      · exact path_raiseSend hp nbM_ok
    · rename_i h0
      have h1 : m.hops ≠ 0 := fun g => h0 (.inl g)
      have h2 : fwdN O p m ≠ [] := fun g => h0 (.inr g)
      split
      · have g := Path.one (Prim.learn m.peer hpe)
        refine g.thenP (path_pass (g.wok w) (fun x hx => ?_) h2 hm (.inl hk) h1 pa m.pn pc)
        show x ∈ (learnV O.V O.D m.peer).a
        rw [learn_told.1]; exact fwdN_mem hx
      · exact path_pass w (fun x hx => fwdN_mem hx) h2 hm (.inl hk) h1 pa m.pn pc
theorem path_shuffle {O : OV} (w : WOK O) {p : Int} {m : MsgV} (hm : MsgOK m) (hk : m.kind = 7) (hpe : thereB O m.peer = true) (hps : ∀ x ∈ m.ps, thereB O x = true) (hpn : m.pn ≤ 8) (pa : Option Addr) (pn pc : Nat) :
    Path 0 O (shuffleO O p m pa pn pc) := by
  unfold shuffleO
  split
  · exact .refl O
  · rename_i hs
    have hp := onode_of hpe hs
    split
    · rename_i h0
      exact path_pass w (fun x hx => fwdN_mem hx) h0.2 hm (.inr hk) (by have := h0.1; omega) pa m.pn pc
    · unfold swapO
      obtain ⟨h1, h2⟩ := someF_sub m.pn O.D (namesL O m.peer)
      have hsub : ∀ x ∈ (someF m.pn O.D (namesL O m.peer)).2.1, onodeB O x = true := fun x hx => w.n.2 x (List.mem_filter.1 (h2 x hx)).1
      have hms : MsgOK (swapM pa pn pc (someF m.pn O.D (namesL O m.peer)).2.1) := ⟨⟨by show (1 : Int) ≤ 8; decide, by show (8 : Int) ≤ 9; decide⟩, (kindM_ok (k := 1) (by decide)).z, ⟨Int.le_refl 0, by show (0 : Int) < 12; decide⟩, ⟨Int.le_refl 0, by show (0 : Int) ≤ 8; decide⟩, Nat.le_trans h1 hpn,
        fun x hx => there_lt w.ok (onode_there (hsub x hx)), fun _ _ => ⟨rfl, rfl⟩, fun _ => rfl, fun _ h => absurd rfl h⟩
      have g := (Path.one (Prim.dice (O := O) (someF m.pn O.D (namesL O m.peer)).1)).then (Prim.send (O := { O with D := (someF m.pn O.D (namesL O m.peer)).1 }) ⟨m.peer, swapM pa pn pc (someF m.pn O.D (namesL O m.peer)).2.1⟩ ⟨hp, hms⟩)
      refine g.thenP (path_learnAll fun x hx => ?_)
      rcases List.mem_cons.1 hx with rfl | hx
      · exact hpe
      · exact hps x hx
end Go.Proofs.YtbpdchaeakihkaaGreat

/- The overlay's laws, plain: Leave, Tick, Take; whatever act. -/
namespace Go.Proofs.YtbpdchaeakihkaaGreat
open Go.RowKit Go.Qd

theorem path_leaveAll {l : List Int} : ∀ {O : OV}, (∀ x ∈ l, onodeB O x = true) → Path 0 O (leaveAllO O l) := by
  induction l with
  | nil => intro O _; exact .refl O
  | cons x l ih =>
    intro O h
    have g : Path 0 O (partO O x) := (Path.one (Prim.send ⟨x, kindM 6⟩ ⟨h x (by simp), kindM_ok (by decide)⟩)).then (.lower x)
    exact g.thenP (ih (O := partO O x) (fun y hy => by rw [onode_same g.same.c g.same.s]; exact h y (by simp [hy])))
theorem path_leave {O : OV} (w : WOK O) : Path 0 O (leaveO O) := path_leaveAll w.n.1

theorem path_silent (l : List Int) : ∀ (O : OV), Path l.length O (silentO O l) := by
  induction l with
  | nil => intro O; exact .refl O
  | cons x l ih =>
    intro O
    have g : Path 1 O (stepS O x) := by
      unfold stepS
      split
      · exact (Path.one (.count x)).then (.lower x)
      · exact Path.one (.count x)
    have := g.trans (ih (stepS O x))
    rw [Nat.add_comm] at this
    exact this
theorem wanted_mem {O : OV} {x : Int} (h : x ∈ wantedL O) : x ∈ O.V.p := by
  unfold wantedL at h
  split at h
  · cases h
  · exact h
theorem askM_ok (O : OV) : MsgOK (askM O) :=
  ⟨⟨by show (1 : Int) ≤ 3; decide, by show (3 : Int) ≤ 9; decide⟩, (kindM_ok (k := 1) (by decide)).z, ⟨Int.le_refl 0, by show (0 : Int) < 12; decide⟩, ⟨Int.le_refl 0, by show (0 : Int) ≤ 8; decide⟩, by show ([] : List Int).length ≤ 8; decide, fun _ h => (by cases h), fun _ _ => ⟨rfl, rfl⟩, fun h => absurd rfl h, fun _ _ => rfl⟩
theorem path_ask2 {O : OV} (w : WOK O) : Path 0 O (askO2 O) := by
  unfold askO2
  split
  · exact .refl O
  · rename_i h
    have hm := wanted_mem (pick_mem (l := O.D) h)
    have g1 := Path.one (Prim.dice (O := O) (drawL O.D (wantedL O).length))
    have g2 := g1.then (Prim.since 0 ⟨by decide, by decide, fun _ => by decide⟩)
    have g3 := g2.then (Prim.asked (pickV O.D (wantedL O)) (.inr (by show (0 : Int) ≤ 3; decide)))
    exact g3.then (Prim.send ⟨pickV O.D (wantedL O), askM O⟩ ⟨w.n.2 _ hm, askM_ok O⟩)
theorem path_ask {O : OV} (w : WOK O) {k : Int} (n : NumOK O k) : Path 0 O (askO O) := by
  have hs := n.si
  unfold askO
  split
  · rename_i h
    exact Path.one (.since (O.since + 1) ⟨by omega, by omega, fun _ => by omega⟩)
  · have g : Path 0 O (askO1 O) := by
      unfold askO1
      split
      · exact .refl O
      · rename_i h
        have := n.sa h
        exact (Path.one (.asked (-1) (.inl rfl))).then (Prim.since (O := { O with asked := -1 }) (O.since + 1) ⟨by show 0 ≤ O.since + 1; omega, by omega, fun h => absurd rfl h⟩)
    exact g.thenP (path_ask2 (g.wok w))
theorem shuffleM_ok {O : OV} (h : OOK O) (hself : 0 ≤ O.V.self ∧ O.V.self < 12) {ps : List Int} (pa : Option Addr) (pn pc : Nat) (hl : ps.length ≤ 8) (hp : ∀ x ∈ ps, 0 ≤ x ∧ x < 12) : MsgOK (shuffleM O pa pn pc ps) :=
  ⟨⟨by show (1 : Int) ≤ 7; decide, by show (7 : Int) ≤ 9; decide⟩, (kindM_ok (k := 1) (by decide)).z, hself, cfg_walk h, hl, hp, fun _ h => absurd rfl h, fun _ => rfl, fun h => absurd rfl h⟩
theorem path_beat {O : OV} (w : WOK O) (hself : 0 ≤ O.V.self ∧ O.V.self < 12) (pa : Option Addr) (pn pc : Nat) : Path 0 O (beatO O pa pn pc) := by
  unfold beatO
  split
  · exact .refl O
  · rename_i h
    have hc := cfg_swap w.ok
    obtain ⟨h1, h2⟩ := someF_sub (O.cfg.getD 9 0).toNat (drawL O.D O.V.a.length) O.V.p
    have hl : (someF (O.cfg.getD 9 0).toNat (drawL O.D O.V.a.length) O.V.p).2.1.length ≤ 8 := by omega
    have g1 := Path.one (Prim.dice (O := O) (someF (O.cfg.getD 9 0).toNat (drawL O.D O.V.a.length) O.V.p).1)
    have g2 := g1.thenP (path_sends (O := { O with D := (someF (O.cfg.getD 9 0).toNat (drawL O.D O.V.a.length) O.V.p).1 }) (ls := beatsL O.V.a) (fun x hx => by
      obtain ⟨q, hq, rfl⟩ := List.mem_map.1 hx
      exact ⟨w.n.1 q hq, kindM_ok (by decide)⟩))
    exact g2.then (Prim.send (O := { O with D := (someF (O.cfg.getD 9 0).toNat (drawL O.D O.V.a.length) O.V.p).1, L := O.L ++ beatsL O.V.a }) ⟨pickV O.D O.V.a, shuffleM O pa pn pc (someF (O.cfg.getD 9 0).toNat (drawL O.D O.V.a.length) O.V.p).2.1⟩
      ⟨w.n.1 _ (pick_mem h), shuffleM_ok w.ok hself pa pn pc hl (fun x hx => there_lt w.ok (onode_there (w.n.2 x (h2 x hx))))⟩)
theorem path_tick {O : OV} (w : WOK O) {k : Int} (n : NumOK O k) (hself : 0 ≤ O.V.self ∧ O.V.self < 12) (pa : Option Addr) (pn pc : Nat) : Path (1 + O.V.a.length) O (tickR O pa pn pc) := by
  have g1 := (Path.one (Prim.ticks (O := O))).trans (path_silent O.V.a { O with ticks := O.ticks + 1 })
  have g2 := g1.thenP (path_ask (g1.wok w) (g1.num n))
  unfold tickR
  split
  · exact g2.thenP (path_beat (g2.wok w) (by rw [g2.same.s]; exact hself) pa pn pc)
  · exact g2

/-! What a message that fits is. -/
theorem fits_msg {O : OV} {m : MsgV} {k : Nat} (hkk : k = 2 ∨ k = 7) (hk : m.kind = k) (hl : m.ps.length = m.pn) (h : OOK O) (hf : fitsB O m k = true) : MsgOK m ∧ thereB O m.peer = true ∧ (∀ x ∈ m.ps, thereB O x = true) ∧ m.pn ≤ 8 := by
  obtain ⟨h1, h2, h3, h4⟩ := fits_nums hf
  unfold fitsB goodB at hf
  simp only [Bool.and_eq_true, decide_eq_true_eq] at hf
  obtain ⟨⟨hs, _, _, _, _, hm, he⟩, _⟩ := hf
  have hps : ∀ x ∈ m.ps, 0 ≤ x ∧ x < 12 := fun x hx => there_lt h (h4 x hx)
  rcases hkk with rfl | rfl
  · have e : sameB (bareM m 2) 2 = true := hs
    have b : bareM m 2 = { m with peer := 0, hops := 0, ma := none, mn := 0, mq := 0, ea := none, en := 0, eq := 0 } := rfl
    rw [b] at e
    simp only [sameB, Bool.and_eq_true, decide_eq_true_eq, beq_iff_eq] at e
    obtain ⟨_, _, _, q3, q4, q5, q6, q7, q8, q9⟩ := e
    have hnil : m.ps = [] := List.eq_nil_of_length_eq_zero (by rw [hl]; exact q9)
    exact ⟨⟨by rw [hk]; decide, ⟨q4, q5, q6, q7, q8, hm, he⟩, there_lt h h3, h1, by omega, hps, fun g => absurd hk g, fun _ => q3, fun _ _ => hnil⟩, h3, h4, h2⟩
  · have e : sameB (bareM m 7) 7 = true := hs
    have b : bareM m 7 = { m with peer := 0, hops := 0, pa := none, pn := 0, pc := 0, ps := [], ma := none, mn := 0, mq := 0, ea := none, en := 0, eq := 0 } := rfl
    rw [b] at e
    simp only [sameB, Bool.and_eq_true, decide_eq_true_eq, beq_iff_eq] at e
    obtain ⟨_, _, _, q3, q4, q5, q6, q7, q8, _⟩ := e
    exact ⟨⟨by rw [hk]; decide, ⟨q4, q5, q6, q7, q8, hm, he⟩, there_lt h h3, h1, by omega, hps, fun _ g => absurd hk g, fun _ => q3, fun g => absurd hk g⟩, h3, h4, h2⟩

theorem path_take {O : OV} (w : WOK O) {p : Int} {m : MsgV} (hp : onodeB O p = true) {k : Nat} (h1 : 1 ≤ k) (h9 : k ≤ 9) (hk : m.kind = k) (hl : m.ps.length = m.pn) (hf : fitsB O m k = true) (pa : Option Addr) (pn pc : Nat) :
    Path 0 O (takeO O p m k pa pn pc) := by
  have g := path_heard hp
  have gw := g.wok w
  have gp : onodeB (heardO O p) p = true := by rw [onode_same g.same.c g.same.s]; exact hp
  have tr : ∀ x, thereB O x = true → thereB (heardO O p) x = true := fun x hx => by unfold thereB at hx ⊢; rw [g.same.c]; exact hx
  have hcase : k = 1 ∨ k = 2 ∨ k = 3 ∨ k = 4 ∨ k = 5 ∨ k = 6 ∨ k = 7 ∨ k = 8 ∨ k = 9 := by omega
  rcases hcase with rfl | rfl | rfl | rfl | rfl | rfl | rfl | rfl | rfl
  · exact path_take1 w hp
  · obtain ⟨a1, a2, a3, a4⟩ := fits_msg (.inl rfl) hk hl w.ok hf
    exact g.thenP (path_forward gw a1 hk (tr _ a2) pa pc)
  · exact g.thenP (path_neighbor gp m.high)
  · exact g.thenP (path_answer gp true)
  · exact g.thenP (path_answer gp false)
  · exact g.then (.lower p)
  · obtain ⟨a1, a2, a3, a4⟩ := fits_msg (.inr rfl) hk hl w.ok hf
    exact g.thenP (path_shuffle gw a1 hk (tr _ a2) (fun x hx => tr x (a3 x hx)) a4 pa pn pc)
  · exact g.thenP (path_learnAll fun x hx => tr x ((fits_nums hf).2.2.2 x hx))
  · exact g

/-- Whatever act: refused, and nothing changed; or a path. -/
theorem step_path {O X : OV} {x : OAct} {e : Int} (w : WOK O) {k : Int} (n : NumOK O k) (hself : 0 ≤ O.V.self ∧ O.V.self < 12) (hl : x.m.ps.length = x.m.pn) (h : StepR O x X e) :
    (e ≠ 0 ∧ X = O ∧ (e = 1 ∧ onodeB O x.peer = false ∨ e = 4 ∧ onodeB O x.peer = true ∧ x.kind = 3)) ∨ (e = 0 ∧ ∃ j : Nat, j ≤ 12 ∧ Path j O X) := by
  cases h with
  | joinNo hk hn => exact .inl ⟨by decide, rfl, .inl ⟨rfl, hn⟩⟩
  | join hk hn => exact .inr ⟨rfl, 0, by decide, path_raiseSend hn (kindM_ok (by decide))⟩
  | leave hk => exact .inr ⟨rfl, 0, by decide, path_leave w⟩
  | heardNo hk hn => exact .inl ⟨by decide, rfl, .inl ⟨rfl, hn⟩⟩
  | heard hk hn => exact .inr ⟨rfl, 0, by decide, path_heard hn⟩
  | take hk ma mq ea eq X e h =>
    cases h with
    | no hn => exact .inl ⟨by decide, rfl, .inl ⟨rfl, hn⟩⟩
    | bad hn hf => exact .inl ⟨by decide, rfl, .inr ⟨rfl, hn, hk⟩⟩
    | yes hn k h1 h9 hkk hf pa pn pc => exact .inr ⟨rfl, 0, by decide, path_take w hn h1 h9 hkk hl hf pa pn pc⟩
  | tick hk pa pn pc =>
    have : O.V.a.length ≤ 11 := by have := w.ok.v.la; have := w.ok.v.am; omega
    exact .inr ⟨rfl, _, by omega, path_tick w n hself pa pn pc⟩
end Go.Proofs.YtbpdchaeakihkaaGreat

/- OverlayRefuses, the plain law. -/
namespace Go.Proofs.YtbpdchaeakihkaaGreat
open Go.RowKit Go.Qd

/-- What holds between the acts. -/
structure LI (c : List Int) (me : Int) (k : Nat) (O : OV) : Prop where
  wk : WOK O
  nm : NumOK O (12 * k)
  cf : O.cfg = c
  sl : O.V.self = me
  ll : O.L = []
  cc : O.C = []
theorem LI.self12 {c : List Int} {self : Int} {k : Nat} {O : OV} (h : LI c self k O) (hs : 0 ≤ self ∧ self < c.getD 0 0) : 0 ≤ O.V.self ∧ O.V.self < 12 := by
  have := h.wk.ok.nodes
  rw [h.cf] at this
  rw [h.sl]; omega
theorem LI.new {c : List Int} {self : Int} {D : List Int} (hc : c.length = 20) (hr : rightB c = true) (hs : 0 ≤ self ∧ self < c.getD 0 0) : LI c self 0 (newO c self D) := by
  refine ⟨⟨new_ok hc hr hs, ⟨fun x hx => (by cases hx), fun x hx => (by cases hx)⟩⟩, ⟨fun j => ?_, ⟨Int.le_refl _, Int.le_refl _⟩, ⟨Int.le_refl 0, by show (0 : Int) ≤ 4; decide⟩, fun h => absurd rfl h⟩, rfl, rfl, rfl, rfl⟩
  have : (newO c self D).heard.getD j 0 = 0 := by
    show (List.replicate 12 (0 : Int)).getD j 0 = 0
    rw [List.getD_eq_getElem?_getD, List.getElem?_replicate]; split <;> rfl
  rw [this]; omega
theorem LI.path {c : List Int} {self : Int} {k j : Nat} {O X : OV} (h : LI c self k O) (hj : j ≤ 12) (p : Path j O X) : LI c self (k + 1) (freshO X) := by
  have w := p.wok h.wk
  have n := p.num h.nm
  refine ⟨⟨OOK.fresh w.ok, w.n⟩, ⟨fun i => ⟨(n.hh i).1, ?_⟩, ⟨n.tk.1, ?_⟩, n.si, n.sa⟩, p.same.c.trans h.cf, p.same.s.trans h.sl, rfl, rfl⟩
  · have := (n.hh i).2; show X.heard.getD i 0 ≤ _; omega
  · have := n.tk.2; show X.ticks ≤ _; omega
theorem LI.next {c : List Int} {self : Int} {k : Nat} {O : OV} (h : LI c self k O) : LI c self (k + 1) O :=
  ⟨h.wk, ⟨fun i => ⟨(h.nm.hh i).1, by have := (h.nm.hh i).2; omega⟩, ⟨h.nm.tk.1, by have := h.nm.tk.2; omega⟩, h.nm.si, h.nm.sa⟩, h.cf, h.sl, h.ll, h.cc⟩
theorem LI.sok {c : List Int} {self : Int} {k : Nat} {O : OV} (h : LI c self k O) (hk : k ≤ 60) : SOK O 1000000 0 ∧ (0 ≤ O.ticks ∧ O.ticks ≤ 1000000) ∧ (0 ≤ O.since ∧ O.since ≤ 4) :=
  ⟨⟨h.wk.ok, fun j => ⟨(h.nm.hh j).1, by have := (h.nm.hh j).2; omega⟩, by rw [h.cc]; exact Nat.le_refl _, h.ll⟩, ⟨h.nm.tk.1, by have := h.nm.tk.2; omega⟩, h.nm.si⟩

theorem step_cases {c : List Int} {self : Int} {k : Nat} {O X : OV} {x : OAct} {e : Int} (h : LI c self k O) (hs : 0 ≤ self ∧ self < c.getD 0 0) (hl : x.m.ps.length = x.m.pn) (hst : StepR O x X e) :
    (e = 1 ∧ X = O ∧ decide (0 ≤ x.peer) = false) ∨ (e = 1 ∧ X = O ∧ decide (0 ≤ x.peer) = true ∧ decide (x.peer < c.getD 0 0) = false) ∨
    (e = 1 ∧ X = O ∧ decide (0 ≤ x.peer) = true ∧ decide (x.peer < c.getD 0 0) = true ∧ (x.peer != self) = false) ∨
    (e = 4 ∧ X = O ∧ decide (0 ≤ x.peer) = true ∧ decide (x.peer < c.getD 0 0) = true ∧ (x.peer != self) = true ∧ x.kind = 3) ∨ (e = 0 ∧ LI c self (k + 1) (freshO X)) := by
  rcases step_path h.wk h.nm (h.self12 hs) hl hst with ⟨he, rfl, ⟨rfl, hn⟩ | ⟨rfl, hn, hk⟩⟩ | ⟨rfl, j, hj, hp⟩
  · by_cases h1 : 0 ≤ x.peer
    · by_cases h2 : x.peer < c.getD 0 0
      · have h3 : x.peer = self := by
          refine Classical.byContradiction fun g => ?_
          have := (onode_iff (O := X) (p := x.peer)).2 ⟨h1, by rw [h.cf]; exact h2, by rw [h.sl]; exact g⟩
          rw [hn] at this; cases this
        exact .inr (.inr (.inl ⟨rfl, rfl, decide_eq_true h1, decide_eq_true h2, by simp [h3]⟩))
      · exact .inr (.inl ⟨rfl, rfl, decide_eq_true h1, decide_eq_false h2⟩)
    · exact .inl ⟨rfl, rfl, decide_eq_false h1⟩
  · obtain ⟨h1, h2, h3⟩ := onode_iff.1 hn
    rw [h.cf] at h2
    rw [h.sl] at h3
    exact .inr (.inr (.inr (.inl ⟨rfl, rfl, decide_eq_true h1, decide_eq_true h2, by simp [h3], hk⟩)))
  · exact .inr (.inr (.inr (.inr ⟨rfl, h.path hj hp⟩)))
theorem ch0_rd {w : World} {ca : Option Addr} {cn cc : Nat} (rd : RdS w 2 ca cn cc (chC [])) : cn = 0 := by have := rd.len; rw [chC_size] at this; simp at this; omega
theorem reads_len {W : World} {m : MsgV} {ks : List MkV} {es : List EnV} (h : m.reads W ks es) : m.ps.length = m.pn := ivs_len h.1
end Go.Proofs.YtbpdchaeakihkaaGreat
