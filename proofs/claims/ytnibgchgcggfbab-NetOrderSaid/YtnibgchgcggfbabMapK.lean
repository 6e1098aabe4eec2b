/- Maps in the logic of ownership: an association list whose keys are encoded. -/
import Derived.Test.YtnibgchgcggfbabSlice
namespace Go.Qd
open Go.RowKit

/-- The first entry with this key: its place and its value. -/
def lookAt {κ : Type} [DecidableEq κ] (a : κ) : List (κ × Value) → Nat → Option (Nat × Value)
  | [], _ => none
  | p :: l, i => if a = p.1 then some (i, p.2) else lookAt a l (i + 1)

structure KeyT (P : Program) (K : TypeId) {κ : Type} [DecidableEq κ] (enc : κ → Value) : Prop where
  check : ∀ e a w, (Instr.checkKey e 10000 K (enc a)).run P w = .ok () w
  find : ∀ a (l : List (κ × Value)) (es : List MapEntry) w, es.map (fun e => (e.key, e.val)) = l.map (fun p => (enc p.1, p.2)) → (Instr.findKey K (enc a) es).run P w = .ok (lookAt a l 0) w
  bits : ∀ a, Instr.sameBits 10000 (enc a) (enc a) = true

section
variable {P : Program} {K : TypeId} {κ : Type} [DecidableEq κ] {enc : κ → Value}

theorem findAsking_run (heq : ∀ a b w, (Op.equal K (enc a) (enc b)).run P w = .ok (decide (a = b)) w) (a : κ) (w : World) : ∀ (l : List (κ × Value)) (es : List MapEntry) (i : Nat),
    es.map (fun e => (e.key, e.val)) = l.map (fun p => (enc p.1, p.2)) → (Instr.findAsking K (enc a) es i).run P w = .ok (lookAt a l i) w
  | [], es, i, h => by
    have : es = [] := by simpa using h
    subst this; simp [Instr.findAsking, lookAt]
  | p :: l, [], i, h => by simp at h
  | p :: l, e :: es, i, h => by
    simp only [List.map_cons, List.cons.injEq, Prod.mk.injEq] at h
    obtain ⟨⟨h1, h2⟩, h3⟩ := h
    have ih := findAsking_run heq a w l es (i + 1) h3
    simp only [Instr.findAsking, h1, h2]
    by_cases hp : a = p.1
    · subst hp
      have := heq p.1 p.1 w
      simp [this, lookAt]
    · have := heq a p.1 w
      simp [this, lookAt, hp, ih]

/-- A key type whose equality is asked of the program (an array, a struct). -/
theorem KeyT.asking {d : TypeDesc} (hu : P.underlying K = some d) (hnow : ∀ a b, Instr.sameNow d (enc a) (enc b) = none) (hc : ∀ e a w, (Instr.checkKey e 10000 K (enc a)).run P w = .ok () w)
    (heq : ∀ a b w, (Op.equal K (enc a) (enc b)).run P w = .ok (decide (a = b)) w) (hb : ∀ a, Instr.sameBits 10000 (enc a) (enc a) = true) : KeyT P K enc := by
  refine ⟨hc, fun a l es w h => ?_, hb⟩
  have h1 := findAsking_run heq a w l es 0 h
  simp only [Instr.findKey]
  cases l with
  | nil =>
    have : es = [] := by simpa using h
    subst this
    simp [run_underlying hu, Instr.findNow, lookAt]
  | cons p l =>
    cases es with
    | nil => simp at h
    | cons e es =>
      simp only [List.map_cons, List.cons.injEq, Prod.mk.injEq] at h
      have h2 : Instr.findNow d (enc a) (e :: es) 0 = none := by simp [Instr.findNow, h.1.1, hnow]
      simp [run_underlying hu, h2, h1]

end

/-- A map that is owned. -/
def MapA {κ : Type} (enc : κ → Value) (m : Nat) (l : List (κ × Value)) : HP := fun h => ∃ x : Array MapEntry × Nat, x.1.toList.map (fun e => (e.key, e.val)) = l.map (fun p => (enc p.1, p.2)) ∧ h = single m 0 (.obj (.map x.1 x.2))

section
variable {W w : World} {R : List HP} {κ : Type} {enc : κ → Value} {m : Nat} {l : List (κ × Value)}

theorem MapA.open (s : St W w (MapA enc m l :: R)) : ∃ es clock, es.toList.map (fun e => (e.key, e.val)) = l.map (fun p => (enc p.1, p.2)) ∧ w.heap[m]? = some (.map es clock) ∧ W.heap.size ≤ m := by
  obtain ⟨x, s⟩ := St.ex (F := fun (x : Array MapEntry × Nat) h => x.1.toList.map (fun e => (e.key, e.val)) = l.map (fun p => (enc p.1, p.2)) ∧ h = single m 0 (.obj (.map x.1 x.2))) s
  obtain ⟨p, s⟩ := s.pure
  have := s.front (fun _ h => h) m 0 (.obj (.map x.1 x.2)) (by simp [single])
  exact ⟨x.1, x.2, p, this.1.2.1, this.2 rfl⟩

/-- The map's object is replaced. -/
theorem MapA.set {l' : List (κ × Value)} (s : St W w (MapA enc m l :: R)) (es : Array MapEntry) (clock : Nat) (h : es.toList.map (fun e => (e.key, e.val)) = l'.map (fun p => (enc p.1, p.2))) :
    St W { w with heap := w.heap.setIfInBounds m (.map es clock) } (MapA enc m l' :: R) := by
  obtain ⟨es0, c0, h0, hh, hge⟩ := MapA.open s
  have hlt : m < w.heap.size := by
    rcases Nat.lt_or_ge m w.heap.size with g | g
    · exact g
    · simp [Array.getElem?_eq_none g] at hh
  have hother : ∀ k, k ≠ m → (w.heap.setIfInBounds m (.map es clock))[k]? = w.heap[k]? := fun k hk => by
    rw [Array.getElem?_setIfInBounds_ne (Ne.symm hk)]
  refine s.update (B := MapA enc m l') ⟨s.1.os, s.1.tape, s.1.output, by simpa using s.1.size, fun k hk => (hother k (by omega)).trans (s.1.block k hk)⟩ ?_
  rintro h1 ⟨x, hx, rfl⟩ k1
  refine ⟨single m 0 (.obj (.map es clock)), ⟨(es, clock), h, rfl⟩, fun b o r hr => ?_, fun b o hn => ?_, fun b o r hb hown hr => ?_⟩
  · unfold single at hr
    split at hr
    · rename_i hc
      obtain ⟨rfl, rfl⟩ := hc
      cases hr
      exact ⟨⟨rfl, by simp [hlt], rfl⟩, fun _ => hge⟩
    · cases hr
  · unfold single at hn
    split at hn
    · rename_i hc
      obtain ⟨rfl, rfl⟩ := hc
      exact .inr ⟨.obj (.map x.1 x.2), by simp [single], .inl rfl⟩
    · exact absurd rfl hn
  · by_cases hbm : b = m
    · subst hbm
      have hm1 := (k1 b 0 (.obj (.map x.1 x.2)) (by simp [single])).1.2.1
      cases r with
      | cell v => simp [Res.ok, World.cell?, hm1] at hr
      | ro v => simp [Res.ok, World.cell?, hm1] at hr
      | obj ob =>
        have := hown (.obj (.map x.1 x.2)) (by have := hr.1; subst this; simp [single])
        simp [Res.own] at this
    · exact hr.same (hother b hbm)

theorem MapA.make (s : St W w R) : St W (w.alloc (.map #[] 0)) (MapA enc w.heap.size [] :: R) := by
  refine s.grow (B := MapA enc w.heap.size []) (s.1.alloc s.1.size _) (fun b hlt => heap_alloc_old w _ hlt) (h1' := single w.heap.size 0 (.obj (.map #[] 0))) ⟨(#[], 0), rfl, rfl⟩ (fun b o r hr => ?_) (fun b o hn => ?_)
  · unfold single at hr
    split at hr
    · rename_i hc
      obtain ⟨rfl, rfl⟩ := hc
      cases hr
      exact ⟨⟨rfl, heap_alloc_new w _, rfl⟩, fun _ => s.1.size⟩
    · cases hr
  · unfold single at hn
    split at hn
    · rename_i hc; omega
    · exact absurd rfl hn

end

section
variable {P : Program} {W w : World} {R : List HP} {K : TypeId} {κ : Type} [DecidableEq κ] {enc : κ → Value} {m : Nat} {l : List (κ × Value)} {t e : TypeId}

/-- 'm[k]' of an owned map. -/
theorem run_lookup_st (kt : KeyT P K enc) (hu : P.underlying t = some (.map K e)) {z : Value} (hz : ∀ w, (zeroValue e).run P w = .ok z w) (s : St W w (MapA enc m l :: R)) (a : κ) :
    (Instr.lookup t (.map (some m)) (enc a) false).run P w = .ok (((lookAt a l 0).map (·.2)).getD z) w := by
  obtain ⟨es, clock, h, hh, _⟩ := MapA.open s
  have hf := kt.find a l es.toList w h
  have hc := kt.check es.isEmpty a w
  have hg : (getObj m).run P w = .ok (.map es clock) w := by simp [getObj, Sem.run, hh]
  simp only [Instr.lookup]
  simp [run_underlying hu, hg, hc, hf]
  cases lookAt a l 0 with
  | none => simp [hz]
  | some p => simp

end

end Go.Qd
