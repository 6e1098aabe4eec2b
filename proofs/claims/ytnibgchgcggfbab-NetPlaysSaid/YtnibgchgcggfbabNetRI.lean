/- NetPlays: what holds between the net and the document's. -/
import Derived.Test.YtnibgchgcggfbabNetRH
import Derived.Test.YtnibgchgcggfbabNetRE
import Derived.Test.YtnibgchgcggfbabNetRF
namespace Go.Proofs.Ytnibgchgcggfbab
open Go.RowKit Go.Qd

/-! Keys of an association list. -/
section
variable {κ : Type} [DecidableEq κ]
def keysOf (l : List (κ × Value)) : List κ := l.map (·.1)
theorem lookAt_keys {a : κ} : ∀ {l : List (κ × Value)} (i : Nat), (lookAt a l i).isSome = true ↔ a ∈ keysOf l
  | [], i => by simp [lookAt, keysOf]
  | p :: l, i => by
    unfold lookAt
    by_cases h : a = p.1
    · simp [h, keysOf]
    · rw [if_neg h, lookAt_keys (i + 1)]
      simp [keysOf, h]
omit [DecidableEq κ] in
theorem putAt_keys {v : Value} : ∀ (l : List (κ × Value)) (i : Nat), keysOf (putAt l i v) = keysOf l
  | [], i => rfl
  | p :: l, 0 => rfl
  | p :: l, i + 1 => by show p.1 :: keysOf (putAt l i v) = p.1 :: keysOf l; rw [putAt_keys l i]
theorem aput_keys {l : List (κ × Value)} {a : κ} {v : Value} : keysOf (aput l a v) = if a ∈ keysOf l then keysOf l else keysOf l ++ [a] := by
  unfold aput
  cases h : lookAt a l 0 with
  | some p => rw [if_pos ((lookAt_keys 0).1 (by rw [h]; rfl))]; exact putAt_keys _ _
  | none => rw [if_neg (fun g => by have := (lookAt_keys (l := l) 0).2 g; rw [h] at this; cases this)]; simp [keysOf]
theorem aput_nodup {l : List (κ × Value)} {a : κ} {v : Value} (h : (keysOf l).Nodup) : (keysOf (aput l a v)).Nodup := by
  rw [aput_keys]
  split
  · exact h
  · rename_i g
    rw [List.nodup_append]
    refine ⟨h, by simp, fun x hx y hy => ?_⟩
    have : y = a := by simpa using hy
    subst this
    exact fun e => g (e ▸ hx)
theorem mem_aput {l : List (κ × Value)} {a b : κ} {v : Value} : b ∈ keysOf (aput l a v) ↔ b ∈ keysOf l ∨ b = a := by
  rw [aput_keys]
  split
  · rename_i g
    exact ⟨.inl, fun h => h.elim id fun e => e ▸ g⟩
  · simp
theorem erase_at : ∀ (l : List κ) (i : Nat) (a : κ), l.Nodup → l[i]? = some a → l.eraseIdx i = l.erase a
  | [], i, a, _, h => by simp at h
  | x :: l, 0, a, _, h => by
    have : x = a := by simpa using h
    subst this
    simp
  | x :: l, i + 1, a, hn, h => by
    have h1 : l[i]? = some a := by simpa using h
    have ha : a ∈ l := List.mem_of_getElem? h1
    have hx : x ≠ a := fun e => (List.nodup_cons.1 hn).1 (e ▸ ha)
    rw [List.eraseIdx_cons_succ, List.erase_cons_tail (by simpa using hx), erase_at l i a (List.nodup_cons.1 hn).2 h1]
theorem adel_keys {l : List (κ × Value)} {a : κ} (h : (keysOf l).Nodup) : keysOf (adel l a) = (keysOf l).erase a := by
  unfold adel
  cases hl : lookAt a l 0 with
  | none =>
    have : a ∉ keysOf l := fun g => by have := (lookAt_keys (l := l) 0).2 g; rw [hl] at this; cases this
    rw [List.erase_of_not_mem this]
  | some p =>
    obtain ⟨_, h2, h3⟩ := lookAt_spec hl
    rw [Nat.sub_zero] at h2 h3
    show keysOf (l.eraseIdx p.1) = _
    have hk : (keysOf l)[p.1]? = some a := by simp [keysOf, h3]
    have e1 : keysOf (l.eraseIdx p.1) = (keysOf l).eraseIdx p.1 := map_erase _ _ _
    rw [e1, erase_at _ _ _ h hk]
theorem adel_nodup {l : List (κ × Value)} {a : κ} (h : (keysOf l).Nodup) : (keysOf (adel l a)).Nodup := by rw [adel_keys h]; exact h.erase _
theorem mem_adel {l : List (κ × Value)} {a b : κ} (h : (keysOf l).Nodup) : b ∈ keysOf (adel l a) ↔ b ∈ keysOf l ∧ b ≠ a := by
  rw [adel_keys h, h.mem_erase_iff]; exact And.comm
end

/-- What of a parcel shows. -/
def PV.core (p : PV) : Int × Int × Nat × List Int × Bool := (p.f, p.t, p.n, p.bs, p.sp)
def Held (E : List PV) (q : PV) : Prop := ∃ e ∈ E, e.a = q.a ∧ e.n = q.n ∧ e.c = q.c ∧ e.bs = q.bs

theorem Held.rd {W w : World} {R : List HP} {E : List PV} {q : PV} (h : Held E q) (s : St W w (sepL (E.map PV.bytes) :: R)) : RdS w 1 q.a q.n q.c (bvs q.bs) := by
  obtain ⟨e, he, h1, h2, h3, h4⟩ := h
  obtain ⟨i, hi, rfl⟩ := List.getElem_of_mem he
  have s1 := (St.nth hi).1 s
  have := OwnS.rd (sz := 1) (show St W w (OwnS 1 E[i].a E[i].n E[i].c (bvs E[i].bs) :: _) from s1)
  rwa [h1, h2, h3, h4] at this
theorem Held.more {E : List PV} {q : PV} (h : Held E q) (e : PV) : Held (E ++ [e]) q := by
  obtain ⟨x, hx, h⟩ := h
  exact ⟨x, List.mem_append.2 (.inl hx), h⟩

structure PS (k : Nat) (N : NetV) (M : RN) (qs E : List PV) : Prop where
  nodes : 2 ≤ N.nodes ∧ N.nodes ≤ 12
  rm : 1 ≤ N.room ∧ N.room ≤ 4096
  mn : M.nodes = N.nodes
  mr : M.room = N.room
  md : M.dropped = N.dropped
  ml : M.n = N.ps.length
  low : 0 ≤ N.dropped
  high : N.dropped ≤ k
  len : N.ps.length ≤ k
  fit : (N.ps.length : Int) ≤ N.room
  cuts : ∀ p ∈ N.cuts, p.2 = iv 1
  nd : (keysOf N.cuts).Nodup
  ct : ∀ x y : Nat, linkB N.nodes x y = true → ((min (x : Int) y, max (x : Int) y) ∈ keysOf N.cuts ↔ M.cut x y = true)
  same : qs.map PV.core = N.ps.map PV.core
  ok : ∀ p ∈ N.ps, linkB N.nodes p.f p.t = true ∧ p.n ≤ 100
  held : ∀ q ∈ qs, Held E q

section
variable {k : Nat} {N : NetV} {M : RN} {qs E : List PV}

theorem PS.start {x y : Int} (h : 2 ≤ x ∧ x ≤ 12 ∧ 1 ≤ y ∧ y ≤ 4096) : PS 0 ⟨x, y, [], [], 0⟩ ⟨x, y, none, 0, 0, fun _ _ => false, 0⟩ [] [] :=
  ⟨⟨h.1, h.2.1⟩, h.2.2, rfl, rfl, rfl, rfl, Int.le_refl _, Int.le_refl _, Nat.le_refl _, by have := h.2.2.1; show ((0 : Nat) : Int) ≤ y; omega, fun _ h => (by cases h), List.nodup_nil, fun _ _ _ => by simp [keysOf], rfl, fun _ h => (by cases h), fun _ h => (by cases h)⟩

theorem PS.more (h : PS k N M qs E) : PS (k + 1) N M qs E :=
  { h with high := by have := h.high; omega, len := by have := h.len; omega }

theorem PS.qlen (h : PS k N M qs E) : qs.length = N.ps.length := by have := congrArg List.length h.same; simpa using this

theorem PS.at {i : Nat} (h : PS k N M qs E) (hi : i < N.ps.length) : ∃ hq : i < qs.length, qs[i].f = N.ps[i].f ∧ qs[i].t = N.ps[i].t ∧ qs[i].n = N.ps[i].n ∧ qs[i].bs = N.ps[i].bs ∧ qs[i].sp = N.ps[i].sp := by
  have hq : i < qs.length := by rw [h.qlen]; exact hi
  have h1 : (qs.map PV.core)[i]? = some qs[i].core := by simp [hq]
  have h2 : (N.ps.map PV.core)[i]? = some N.ps[i].core := by simp [hi]
  rw [h.same, h2] at h1
  simp only [Option.some.injEq, PV.core, Prod.mk.injEq] at h1
  exact ⟨hq, h1.1.symm, h1.2.1.symm, h1.2.2.1.symm, h1.2.2.2.1.symm, h1.2.2.2.2.symm⟩

theorem PS.put (h : PS k N M qs E) {p q : PV} (hr : (N.ps.length : Int) < N.room) (hc : q.core = p.core) (hp : linkB N.nodes p.f p.t = true ∧ p.n ≤ 100) {E' : List PV} (hE : ∀ x, Held E x → Held E' x) (hq : Held E' q) (a : Option Addr) (c : Nat) :
    PS (k + 1) (putN N p) { M with a := a, n := M.n + 1, c := c } (qs ++ [q]) E' := by
  unfold putN
  rw [if_pos hr]
  exact ⟨h.nodes, h.rm, h.mn, h.mr, h.md, by show M.n + 1 = (N.ps ++ [p]).length; rw [h.ml]; simp, h.low, by have := h.high; show N.dropped ≤ _; omega, by have := h.len; show (N.ps ++ [p]).length ≤ _; simp; omega,
    by show ((N.ps ++ [p]).length : Int) ≤ N.room; simp; omega, h.cuts, h.nd, h.ct, by show (qs ++ [q]).map PV.core = (N.ps ++ [p]).map PV.core; simp [h.same, hc],
    fun x hx => by
      rcases List.mem_append.1 hx with g | g
      · exact h.ok x g
      · have : x = p := by simpa using g
        rw [this]; exact hp,
    fun x hx => by
      rcases List.mem_append.1 hx with g | g
      · exact hE x (h.held x g)
      · have : x = q := by simpa using g
        rw [this]; exact hq⟩

theorem PS.full (h : PS k N M qs E) {p : PV} (hr : ¬ (N.ps.length : Int) < N.room) : PS (k + 1) (putN N p) { M with dropped := M.dropped + 1 } qs E := by
  unfold putN
  rw [if_neg hr]
  exact { h with md := by show M.dropped + 1 = N.dropped + 1; rw [h.md], low := by have := h.low; show 0 ≤ N.dropped + 1; omega, high := by have := h.high; show N.dropped + 1 ≤ _; omega, len := by have := h.len; show N.ps.length ≤ _; omega }

theorem map_eraseC {α β : Type} (f : α → β) (l : List α) (i : Nat) : (l.eraseIdx i).map f = (l.map f).eraseIdx i := map_erase f l i

theorem PS.drop (h : PS k N M qs E) {i : Nat} (hi : i < N.ps.length) (a : Option Addr) (c : Nat) : PS (k + 1) (dropN N i) { M with a := a, n := M.n - 1, c := c } (qs.eraseIdx i) E := by
  have hl : (N.ps.eraseIdx i).length = N.ps.length - 1 := List.length_eraseIdx_of_lt hi
  exact ⟨h.nodes, h.rm, h.mn, h.mr, h.md, by show M.n - 1 = (N.ps.eraseIdx i).length; rw [hl, h.ml], h.low, by have := h.high; show N.dropped ≤ _; omega, by have := h.len; show (N.ps.eraseIdx i).length ≤ _; rw [hl]; omega,
    by have := h.fit; show ((N.ps.eraseIdx i).length : Int) ≤ N.room; rw [hl]; omega, h.cuts, h.nd, h.ct, by show (qs.eraseIdx i).map PV.core = (N.ps.eraseIdx i).map PV.core; rw [map_eraseC, map_eraseC, h.same],
    fun x hx => h.ok x (List.mem_of_mem_eraseIdx hx), fun x hx => h.held x (List.mem_of_mem_eraseIdx hx)⟩

theorem PS.turn (h : PS k N M qs E) {i : Nat} (hi : i < N.ps.length) {p q : PV} (hc : q.core = p.core) (hp : p.f = N.ps[i].f ∧ p.t = N.ps[i].t ∧ p.n = N.ps[i].n) {E' : List PV} (hE : ∀ x, Held E x → Held E' x) (hq : Held E' q) (a : Option Addr) (c : Nat) :
    PS (k + 1) { N with ps := N.ps.set i p } { M with a := a, c := c } (qs.set i q) E' := by
  refine ⟨h.nodes, h.rm, h.mn, h.mr, h.md, by show M.n = (N.ps.set i p).length; rw [List.length_set]; exact h.ml, h.low, by have := h.high; show N.dropped ≤ _; omega, by have := h.len; show (N.ps.set i p).length ≤ _; rw [List.length_set]; omega,
    by show ((N.ps.set i p).length : Int) ≤ N.room; rw [List.length_set]; exact h.fit, h.cuts, h.nd, h.ct, by show (qs.set i q).map PV.core = (N.ps.set i p).map PV.core; rw [List.map_set, List.map_set, h.same, hc], fun x hx => ?_, fun x hx => ?_⟩
  · rcases List.mem_or_eq_of_mem_set hx with g | g
    · exact h.ok x g
    · rw [g, hp.1, hp.2.1, hp.2.2]; exact h.ok _ (List.getElem_mem hi)
  · rcases List.mem_or_eq_of_mem_set hx with g | g
    · exact hE x (h.held x g)
    · rw [g]; exact hq

theorem PS.cutt (h : PS k N M qs E) {x y : Nat} (hl : linkB N.nodes x y = true) (v : Bool) : PS (k + 1) (cutN N x y v) { M with cut := updC (updC M.cut x y v) y x v } qs E := by
  have hnd : (keysOf (cutN N x y v).cuts).Nodup := by
    unfold cutN
    cases v with
    | true => exact aput_nodup h.nd
    | false => exact adel_nodup h.nd
  have hcu : ∀ p ∈ (cutN N x y v).cuts, p.2 = iv 1 := by
    intro p hp
    unfold cutN at hp
    cases v with
    | true =>
      simp only [if_true] at hp
      unfold aput at hp
      split at hp
      · rcases putAt_mem hp with g | g
        · exact h.cuts p g
        · exact g
      · rcases List.mem_append.1 hp with g | g
        · exact h.cuts p g
        · have : p = ((min (x : Int) y, max (x : Int) y), iv 1) := by simpa using g
          rw [this]
    | false =>
      simp only [Bool.false_eq_true, if_false] at hp
      unfold adel at hp
      split at hp
      · exact h.cuts p (List.mem_of_mem_eraseIdx hp)
      · exact h.cuts p hp
  refine { h with high := ?_, len := ?_, cuts := hcu, nd := hnd, ct := ?_ }
  · have := h.high; show N.dropped ≤ _; omega
  · have := h.len; show N.ps.length ≤ _; omega
  · intro p q hpq
    have hpq' : linkB N.nodes p q = true := hpq
    have h0 := h.ct p q hpq'
    have e : ((min (p : Int) q, max (p : Int) q) = (min (x : Int) y, max (x : Int) y)) ↔ ((p = x ∧ q = y) ∨ (p = y ∧ q = x)) := by
      rw [Prod.mk.injEq]; omega
    have hk : (min (p : Int) q, max (p : Int) q) ∈ keysOf (cutN N x y v).cuts ↔ if ((p = x ∧ q = y) ∨ (p = y ∧ q = x)) then v = true else (min (p : Int) q, max (p : Int) q) ∈ keysOf N.cuts := by
      unfold cutN
      cases v with
      | true =>
        simp only [if_true]
        rw [mem_aput, e]
        split
        · rename_i g; simp [g]
        · rename_i g; simp [g]
      | false =>
        simp only [Bool.false_eq_true, if_false]
        rw [mem_adel h.nd, Ne, e]
        split
        · rename_i g; simp [g]
        · rename_i g; simp [g]
    rw [hk]
    show _ ↔ updC (updC M.cut x y v) y x v p q = true
    unfold updC
    by_cases g1 : p = x ∧ q = y
    · rw [if_pos (.inl g1)]
      by_cases g2 : p = y ∧ q = x
      · rw [if_pos g2]
      · rw [if_neg g2, if_pos g1]
    · by_cases g2 : p = y ∧ q = x
      · rw [if_pos (.inr g2), if_pos g2]
      · rw [if_neg (by simp [g1, g2]), if_neg g2, if_neg g1]; exact h0

end

end Go.Proofs.Ytnibgchgcggfbab
