/- Maps in the logic of ownership: an association list whose keys are encoded. -/
import Derived.Test.YtnibgchgcggfbabSlice
namespace Go.Qd
open Go.RowKit

/-- The first entry with this key: its place and its value. -/
def lookAt {κ : Type} [DecidableEq κ] (a : κ) : List (κ × Value) → Nat → Option (Nat × Value)
  | [], _ => none
  | p :: l, i => if a = p.1 then some (i, p.2) else lookAt a l (i + 1)

structure KeyT (P : Program) (K : TypeId) {κ : Type} [DecidableEq κ] (enc : κ → Value) : Prop where
  check : ∀ e a w, (Instr.checkKey e 10000 K (enc a)).run P w = .ok () w
  find : ∀ a (l : List (κ × Value)) (es : List MapEntry) w, es.map (fun e => (e.key, e.val)) = l.map (fun p => (enc p.1, p.2)) → (Instr.findKey K (enc a) es).run P w = .ok (lookAt a l 0) w
  bits : ∀ a, Instr.sameBits 10000 (enc a) (enc a) = true

section
variable {P : Program} {K : TypeId} {κ : Type} [DecidableEq κ] {enc : κ → Value}

theorem findAsking_run (heq : ∀ a b w, (Op.equal K (enc a) (enc b)).run P w = .ok (decide (a = b)) w) (a : κ) (w : World) : ∀ (l : List (κ × Value)) (es : List MapEntry) (i : Nat),
    es.map (fun e => (e.key, e.val)) = l.map (fun p => (enc p.1, p.2)) → (Instr.findAsking K (enc a) es i).run P w = .ok (lookAt a l i) w
  | [], es, i, h => by
    have : es = [] := by simpa using h
    subst this; simp [Instr.findAsking, lookAt]
  | p :: l, [], i, h => by simp at h
  | p :: l, e :: es, i, h => by
    simp only [List.map_cons, List.cons.injEq, Prod.mk.injEq] at h
    obtain ⟨⟨h1, h2⟩, h3⟩ := h
    have ih := findAsking_run heq a w l es (i + 1) h3
    simp only [Instr.findAsking, h1, h2]
    by_cases hp : a = p.1
    · subst hp
      have := heq p.1 p.1 w
      simp [this, lookAt]
    · have := heq a p.1 w
      simp [this, lookAt, hp, ih]

/-- A key type whose equality is asked of the program (an array, a struct). -/
theorem KeyT.asking {d : TypeDesc} (hu : P.underlying K = some d) (hnow : ∀ a b, Instr.sameNow d (enc a) (enc b) = none) (hc : ∀ e a w, (Instr.checkKey e 10000 K (enc a)).run P w = .ok () w)
    (heq : ∀ a b w, (Op.equal K (enc a) (enc b)).run P w = .ok (decide (a = b)) w) (hb : ∀ a, Instr.sameBits 10000 (enc a) (enc a) = true) : KeyT P K enc := by
  refine ⟨hc, fun a l es w h => ?_, hb⟩
  have h1 := findAsking_run heq a w l es 0 h
  simp only [Instr.findKey]
  cases l with
  | nil =>
    have : es = [] := by simpa using h
    subst this
    simp [run_underlying hu, Instr.findNow, lookAt]
  | cons p l =>
    cases es with
    | nil => simp at h
    | cons e es =>
      simp only [List.map_cons, List.cons.injEq, Prod.mk.injEq] at h
      have h2 : Instr.findNow d (enc a) (e :: es) 0 = none := by simp [Instr.findNow, h.1.1, hnow]
      simp [run_underlying hu, h2, h1]

end

/-- A map that is owned. -/
def MapA {κ : Type} (enc : κ → Value) (m : Nat) (l : List (κ × Value)) : HP := fun h => ∃ x : Array MapEntry × Nat, x.1.toList.map (fun e => (e.key, e.val)) = l.map (fun p => (enc p.1, p.2)) ∧ h = single m 0 (.obj (.map x.1 x.2))

section
variable {W w : World} {R : List HP} {κ : Type} {enc : κ → Value} {m : Nat} {l : List (κ × Value)}

theorem MapA.open (s : St W w (MapA enc m l :: R)) : ∃ es clock, es.toList.map (fun e => (e.key, e.val)) = l.map (fun p => (enc p.1, p.2)) ∧ w.heap[m]? = some (.map es clock) ∧ W.heap.size ≤ m := by
  obtain ⟨x, s⟩ := St.ex (F := fun (x : Array MapEntry × Nat) h => x.1.toList.map (fun e => (e.key, e.val)) = l.map (fun p => (enc p.1, p.2)) ∧ h = single m 0 (.obj (.map x.1 x.2))) s
  obtain ⟨p, s⟩ := s.pure
  have := s.front (fun _ h => h) m 0 (.obj (.map x.1 x.2)) (by simp [single])
  exact ⟨x.1, x.2, p, this.1.2.1, this.2 rfl⟩

/-- The map's object is replaced. -/
theorem MapA.set {l' : List (κ × Value)} (s : St W w (MapA enc m l :: R)) (es : Array MapEntry) (clock : Nat) (h : es.toList.map (fun e => (e.key, e.val)) = l'.map (fun p => (enc p.1, p.2))) :
    St W { w with heap := w.heap.setIfInBounds m (.map es clock) } (MapA enc m l' :: R) := by
  obtain ⟨es0, c0, h0, hh, hge⟩ := MapA.open s
  have hlt : m < w.heap.size := by
    rcases Nat.lt_or_ge m w.heap.size with g | g
    · exact g
    · simp [Array.getElem?_eq_none g] at hh
  have hother : ∀ k, k ≠ m → (w.heap.setIfInBounds m (.map es clock))[k]? = w.heap[k]? := fun k hk => by
    rw [Array.getElem?_setIfInBounds_ne (Ne.symm hk)]
  refine s.update (B := MapA enc m l') ⟨s.1.os, s.1.tape, s.1.output, by simpa using s.1.size, fun k hk => (hother k (by omega)).trans (s.1.block k hk)⟩ ?_
  rintro h1 ⟨x, hx, rfl⟩ k1
  refine ⟨single m 0 (.obj (.map es clock)), ⟨(es, clock), h, rfl⟩, fun b o r hr => ?_, fun b o hn => ?_, fun b o r hb hown hr => ?_⟩
  · unfold single at hr
    split at hr
    · rename_i hc
      obtain ⟨rfl, rfl⟩ := hc
      cases hr
      exact ⟨⟨rfl, by simp [hlt], rfl⟩, fun _ => hge⟩
    · cases hr
  · unfold single at hn
    split at hn
    · rename_i hc
      obtain ⟨rfl, rfl⟩ := hc
      exact .inr ⟨.obj (.map x.1 x.2), by simp [single], .inl rfl⟩
    · exact absurd rfl hn
  · by_cases hbm : b = m
    · subst hbm
      have hm1 := (k1 b 0 (.obj (.map x.1 x.2)) (by simp [single])).1.2.1
      cases r with
      | cell v => simp [Res.ok, World.cell?, hm1] at hr
      | ro v => simp [Res.ok, World.cell?, hm1] at hr
      | obj ob =>
        have := hown (.obj (.map x.1 x.2)) (by have := hr.1; subst this; simp [single])
        simp [Res.own] at this
    · exact hr.same (hother b hbm)

theorem MapA.make (s : St W w R) : St W (w.alloc (.map #[] 0)) (MapA enc w.heap.size [] :: R) := by
  refine s.grow (B := MapA enc w.heap.size []) (s.1.alloc s.1.size _) (fun b hlt => heap_alloc_old w _ hlt) (h1' := single w.heap.size 0 (.obj (.map #[] 0))) ⟨(#[], 0), rfl, rfl⟩ (fun b o r hr => ?_) (fun b o hn => ?_)
  · unfold single at hr
    split at hr
    · rename_i hc
      obtain ⟨rfl, rfl⟩ := hc
      cases hr
      exact ⟨⟨rfl, heap_alloc_new w _, rfl⟩, fun _ => s.1.size⟩
    · cases hr
  · unfold single at hn
    split at hn
    · rename_i hc; omega
    · exact absurd rfl hn

end

/-- The entry at a place is given another value. -/
def putAt {κ : Type} : List (κ × Value) → Nat → Value → List (κ × Value)
  | [], _, _ => []
  | p :: l, 0, v => (p.1, v) :: l
  | p :: l, i + 1, v => p :: putAt l i v

theorem entries_put {κ : Type} {enc : κ → Value} {es : List MapEntry} {l : List (κ × Value)} {i : Nat} {a : κ} {u v : Value} (h : es.map (fun e => (e.key, e.val)) = l.map (fun p => (enc p.1, p.2))) (hi : l[i]? = some (a, u)) :
    (es.modify i fun e => { e with key := enc a, val := v }).map (fun e => (e.key, e.val)) = (putAt l i v).map (fun p => (enc p.1, p.2)) := by
  induction l generalizing es i with
  | nil => simp at hi
  | cons p l ih =>
    cases es with
    | nil => simp at h
    | cons e es =>
      simp only [List.map_cons, List.cons.injEq] at h
      cases i with
      | zero =>
        simp at hi
        subst hi
        simp [putAt, h.2]
      | succ i =>
        have := ih h.2 (by simpa using hi)
        simp [putAt, this]
        simpa using h.1

theorem map_erase {α β : Type} (f : α → β) : ∀ (l : List α) (i : Nat), (l.eraseIdx i).map f = (l.map f).eraseIdx i
  | [], _ => rfl
  | _ :: _, 0 => rfl
  | a :: l, i + 1 => congrArg (f a :: ·) (map_erase f l i)

theorem entries_erase {κ : Type} {enc : κ → Value} {es : List MapEntry} {l : List (κ × Value)} (i : Nat) (h : es.map (fun e => (e.key, e.val)) = l.map (fun p => (enc p.1, p.2))) :
    (es.eraseIdx i).map (fun e => (e.key, e.val)) = (l.eraseIdx i).map (fun p => (enc p.1, p.2)) := by
  rw [map_erase, h, map_erase]

section
variable {P : Program} {W w : World} {R : List HP} {K : TypeId} {κ : Type} [DecidableEq κ] {enc : κ → Value} {m : Nat} {l : List (κ × Value)} {t e : TypeId}

/-- 'm[k]' of an owned map. -/
theorem run_lookup_st (kt : KeyT P K enc) (hu : P.underlying t = some (.map K e)) {z : Value} (hz : ∀ w, (zeroValue e).run P w = .ok z w) (s : St W w (MapA enc m l :: R)) (a : κ) :
    (Instr.lookup t (.map (some m)) (enc a) false).run P w = .ok (((lookAt a l 0).map (·.2)).getD z) w := by
  obtain ⟨es, clock, h, hh, _⟩ := MapA.open s
  have hf := kt.find a l es.toList w h
  have hc := kt.check es.isEmpty a w
  have hg : (getObj m).run P w = .ok (.map es clock) w := by simp [getObj, Sem.run, hh]
  simp only [Instr.lookup]
  simp [run_underlying hu, hg, hc, hf]
  cases lookAt a l 0 with
  | none => simp [hz]
  | some p => simp

/-- 'm[k] = v'. -/
def aput (l : List (κ × Value)) (a : κ) (v : Value) : List (κ × Value) := match lookAt a l 0 with
  | some p => putAt l p.1 v
  | none => l ++ [(a, v)]

/-- 'delete(m, k)'. -/
def adel (l : List (κ × Value)) (a : κ) : List (κ × Value) := match lookAt a l 0 with
  | some p => l.eraseIdx p.1
  | none => l

theorem lookAt_spec {a : κ} : ∀ {l : List (κ × Value)} {i : Nat} {p : Nat × Value}, lookAt a l i = some p → i ≤ p.1 ∧ p.1 - i < l.length ∧ l[p.1 - i]? = some (a, p.2)
  | [], i, p, h => by simp [lookAt] at h
  | q :: l, i, p, h => by
    unfold lookAt at h
    split at h
    · rename_i hq
      cases h
      simp [hq]
    · obtain ⟨h1, h2, h3⟩ := lookAt_spec h
      refine ⟨by omega, by simp; omega, ?_⟩
      rw [show p.1 - i = (p.1 - (i + 1)) + 1 from by omega, List.getElem?_cons_succ]
      exact h3

/-- 'm[k] = v' of an owned map. -/
theorem run_mapUpdate_st (kt : KeyT P K enc) (hu : P.underlying t = some (.map K e)) (s : St W w (MapA enc m l :: R)) (a : κ) (v : Value) :
    ∃ w', (Instr.mapUpdate t (.map (some m)) (enc a) v).run P w = .ok () w' ∧ St W w' (MapA enc m (aput l a v) :: R) := by
  obtain ⟨es, clock, h, hh, _⟩ := MapA.open s
  have hg : (getObj m).run P w = .ok (.map es clock) w := by simp [getObj, Sem.run, hh]
  have hf := kt.find a l es.toList w h
  have hc := kt.check false a w
  have hset : ∀ o : Obj, Obj.isCells o = false → (setObj m o).run P w = .ok () { w with heap := w.heap.setIfInBounds m o } := fun o _ => by simp [setObj, Sem.run, hh]
  cases hl : lookAt a l 0 with
  | none =>
    rw [hl] at hf
    refine ⟨_, ?_, MapA.set s (es.push { key := enc a, val := v, born := clock }) (clock + 1) (l' := aput l a v) (by simp [aput, hl, h])⟩
    simp only [Instr.mapUpdate]
    simp [run_underlying hu, hg, hc, hf, hset _ (rfl : Obj.isCells (.map _ _) = false)]
  | some p =>
    rw [hl] at hf
    obtain ⟨_, h2, h3⟩ := lookAt_spec hl
    rw [Nat.sub_zero] at h2 h3
    have hk : ((es[p.1]?).map (·.key)).getD (enc a) = enc a := by
      have := congrArg (fun x => x[p.1]?) h
      simp only [List.getElem?_map, h3] at this
      cases hq : es.toList[p.1]? with
      | none => rw [hq] at this; simp at this
      | some e0 =>
        rw [hq] at this
        simp at this
        have : es[p.1]? = some e0 := by rw [← hq]; simp
        simp [this]
        rename_i hthis
        exact hthis.1
    have hst : (Instr.keyThatStays (enc a) (enc a)).run P w = .ok (enc a) w := by simp [Instr.keyThatStays, kt.bits a]
    refine ⟨_, ?_, MapA.set s (es.modify p.1 fun e => { e with key := enc a, val := v }) clock (l' := aput l a v) (by simp only [aput, hl, Array.toList_modify]; exact entries_put h h3)⟩
    simp only [Instr.mapUpdate]
    simp [run_underlying hu, hg, hc, hf, hk, hst, hset _ (rfl : Obj.isCells (.map _ _) = false)]

/-- 'delete(m, k)' of an owned map. -/
theorem run_delete_st (kt : KeyT P K enc) (hu : P.underlying t = some (.map K e)) (s : St W w (MapA enc m l :: R)) (a : κ) (ty : TypeId) (u : TypeId) :
    ∃ w', (Builtin.delete_ #[t, u] ty #[.map (some m), enc a]).run P w = .ok (.tuple #[]) w' ∧ St W w' (MapA enc m (adel l a) :: R) := by
  obtain ⟨es, clock, h, hh, _⟩ := MapA.open s
  have hg : (getObj m).run P w = .ok (.map es clock) w := by simp [getObj, Sem.run, hh]
  have hf := kt.find a l es.toList w h
  have hc := kt.check es.isEmpty a w
  have hset : ∀ o : Obj, Obj.isCells o = false → (setObj m o).run P w = .ok () { w with heap := w.heap.setIfInBounds m o } := fun o _ => by simp [setObj, Sem.run, hh]
  cases hl : lookAt a l 0 with
  | none =>
    rw [hl] at hf
    refine ⟨_, ?_, MapA.set s es clock (l' := adel l a) (by simp [adel, hl, h])⟩
    simp only [Builtin.delete_]
    simp [run_underlying hu, hg, hc, hf, hset _ (rfl : Obj.isCells (.map _ _) = false)]
  | some p =>
    rw [hl] at hf
    refine ⟨_, ?_, MapA.set s (es.eraseIdxIfInBounds p.1) clock (l' := adel l a) (by simp only [adel, hl]; rw [show (es.eraseIdxIfInBounds p.1).toList = es.toList.eraseIdx p.1 from by simp]; exact entries_erase p.1 h)⟩
    simp only [Builtin.delete_]
    simp [run_underlying hu, hg, hc, hf, hset _ (rfl : Obj.isCells (.map _ _) = false)]

theorem wpl_mapUpdate {ops : Array Oper} {rest : List Oper} {o : Oper} {a : Act} {Q : Exit → Act → World → Prop} (hgd : o.guard = none) (mo ko vo : Operand) (hop : o.op = Op.mapUpdate t mo ko vo)
    (kt : KeyT P K enc) (hu : P.underlying t = some (.map K e)) {k : κ} {v : Value} (hm : a.eval mo = .map (some m)) (hk : a.eval ko = enc k) (hv : a.eval vo = v) (st : St W w (MapA enc m l :: R))
    (hK : ∀ w', St W w' (MapA enc m (aput l k v) :: R) → wpList P ops Q rest (a.put o.dst undef) w') : wpList P ops Q (o :: rest) a w := by
  refine wpList_plain hgd fun K' hK' => ?_
  obtain ⟨w', hrun, st'⟩ := run_mapUpdate_st kt hu st k v
  unfold Oper.wp
  simp [execOp, hop, hm, hk, hv, hrun, Result.andThen]
  exact hK' _ _ (hK _ st')

theorem wpl_delete {ops : Array Oper} {rest : List Oper} {o : Oper} {a : Act} {Q : Exit → Act → World → Prop} {u : TypeId} (hgd : o.guard = none) (mo ko : Operand)
    (hop : o.op = Op.call { callee := Callee.builtin Builtin.delete, args := #[mo, ko], argTypes := #[t, u] })
    (kt : KeyT P K enc) (hu : P.underlying t = some (.map K e)) {k : κ} (hm : a.eval mo = .map (some m)) (hk : a.eval ko = enc k) (st : St W w (MapA enc m l :: R))
    (hK : ∀ w', St W w' (MapA enc m (adel l k) :: R) → wpList P ops Q rest (a.put o.dst (.tuple #[])) w') : wpList P ops Q (o :: rest) a w := by
  refine wpList_plain hgd fun K' hK' => ?_
  obtain ⟨w', hrun, st'⟩ := run_delete_st kt hu st k o.type u
  unfold Oper.wp
  simp [execOp, hop, resolve, invoke, builtin, hm, hk, hrun, Result.andThen]
  exact hK' _ _ (hK _ st')

theorem step_delete_st {ops : Array Oper} {o : Oper} {a : Act} {K' : Act → World → Prop} {Q : Exit → Act → World → Prop} {EE : Prop} {u : TypeId} (hgd : o.guard = none) (mo ko : Operand)
    (hop : o.op = Op.call { callee := Callee.builtin Builtin.delete, args := #[mo, ko], argTypes := #[t, u] })
    (kt : KeyT P K enc) (hu : P.underlying t = some (.map K e)) {k : κ} (hm : a.eval mo = .map (some m)) (hk : a.eval ko = enc k) (st : St W w (MapA enc m l :: R))
    (hK : ∀ w', St W w' (MapA enc m (adel l k) :: R) → K' (a.put o.dst (.tuple #[])) w') :
    if Region.wanted o (yielded ops a.tmps) = true then Oper.wp P o a w K' Q else EE := by
  have hw : Region.wanted o (yielded ops a.tmps) = true := by simp [Region.wanted, hgd]
  rw [if_pos hw]
  obtain ⟨w', hrun, st'⟩ := run_delete_st kt hu st k o.type u
  unfold Oper.wp
  simp [execOp, hop, resolve, invoke, builtin, hm, hk, hrun, Result.andThen]
  exact hK _ st'

end

end Go.Qd
