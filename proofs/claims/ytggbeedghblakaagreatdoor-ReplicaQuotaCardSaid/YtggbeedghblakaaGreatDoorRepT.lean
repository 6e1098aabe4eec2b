/- The replica in plain Lean: a tick, and what is left behind it. -/
import Derived.Test.YtggbeedghblakaaGreatDoorRepsM
namespace Go.Qd
section
variable {κ β : Type} {lt : κ → κ → Bool} {f : β → κ} {A B : List β} {p x : β}
theorem srt_mid (h : SrtK lt f (A ++ p :: B)) : (∀ a ∈ A, lt (f a) (f p) = true) ∧ (∀ b ∈ B, lt (f p) (f b) = true) := by
  obtain ⟨_, h2, h3⟩ := List.pairwise_append.1 h
  exact ⟨fun a ha => h3 a ha p (by simp), (List.pairwise_cons.1 h2).1⟩
theorem putK_mid (O : Ordr lt) (h : SrtK lt f (A ++ p :: B)) (hx : f x = f p) : putK lt f (A ++ p :: B) x = A ++ x :: B := by
  obtain ⟨h1, h2⟩ := srt_mid h
  unfold putK
  rw [hx]
  have e1 : (A ++ p :: B).filter (fun y => lt (f y) (f p)) = A := by
    rw [List.filter_append, List.filter_cons_of_neg (by simp [O.irr]), List.filter_eq_self.2 h1, List.filter_eq_nil_iff.2 fun b hb => by simp [O.asym (h2 b hb)], List.append_nil]
  have e2 : (A ++ p :: B).filter (fun y => lt (f p) (f y)) = B := by
    rw [List.filter_append, List.filter_cons_of_neg (by simp [O.irr]), List.filter_eq_self.2 h2, List.filter_eq_nil_iff.2 fun a ha => by simp [O.asym (h1 a ha)], List.nil_append]
  rw [e1, e2]
theorem delK_mid [DecidableEq κ] (O : Ordr lt) (h : SrtK lt f (A ++ p :: B)) : delK f (A ++ p :: B) (f p) = A ++ B := by
  obtain ⟨h1, h2⟩ := srt_mid h
  unfold delK
  rw [List.filter_append, List.filter_cons_of_neg (by simp), List.filter_eq_self.2 fun a ha => by simp [O.ne (h1 a ha)], List.filter_eq_self.2 fun b hb => by simp [(O.ne (h2 b hb)).symm]]
end
end Go.Qd

namespace Go.Proofs.YtggbeedghblakaaGreatDoor
open Go.RowKit Go.Qd RepV

def EnV.older (e : EnV) : EnV := { e with age := e.age + 1 }
namespace RepV
/-- What a tick does with one pair of the table. -/
def tick1 (r : RepV) (p : KE) : RepV :=
  if p.2.dead = false then r
  else if p.2.age + 1 < r.t1 then { r with tab := tput r.tab p.2.key p.2.older }
  else { r with tab := tdel r.tab p.2.key, sum := (r.sum + (18446744073709551616 - hashE p.2.older)) % 18446744073709551616, ix := ixDrop r.ix p.2.key }
def goes1 (t1 : Int) (p : KE) : Bool := p.2.dead && !decide (p.2.age + 1 < t1)
end RepV
def gtick1 (t2 : Int) (gr : List KE) (p : KE) : List KE := if p.2.age + 1 < t2 then tput gr p.2.key p.2.older else tdel gr p.2.key
namespace RepV
def ticks (r : RepV) : RepV := r.tab.foldl tick1 r
def ticked (r : RepV) : RepV := { r.ticks with gr := r.gr.foldl (gtick1 r.t2) r.gr }
def tick (r : RepV) : RepV := if r.t1 = 0 then r else r.ticked
def tickG (r : RepV) : List ByteArray := if r.t1 = 0 then [] else (r.tab.filter (goes1 r.t1)).map fun p => p.2.key
end RepV

/-- What is left of a pair. -/
def left1 (t1 : Int) (p : KE) : Option KE := if p.2.dead = false then some p else if p.2.age + 1 < t1 then some (p.1, p.2.older) else none
def gleft1 (t2 : Int) (p : KE) : Option KE := if p.2.age + 1 < t2 then some (p.1, p.2.older) else none

/-- The same, but for table, sum and marks. -/
def SameT (r q : RepV) : Prop := q = { r with tab := q.tab, sum := q.sum, ix := q.ix }

theorem RepOK.tick1 {r : RepV} (h : RepOK r) {p : KE} (hh : thas r.tab p.2.key = true) : RepOK (r.tick1 p) := by
  unfold RepV.tick1
  split
  · exact h
  · split
    · have hl := tput_len h.tab p.2.key p.2.older
      rw [if_pos hh] at hl
      refine ⟨putK_srt kLt_ord h.tab _, fun q hq => ?_, ?_, h.room, h.own, h.ownT, h.ownL, h.ix, ?_, fun k => ?_, h.gr, h.grK, h.grL, h.sum, h.site, h.cnt, h.d, h.t1⟩
      · rcases (mem_putK kLt_ord).1 hq with rfl | ⟨hq, _⟩
        · rfl
        · exact h.key q hq
      · show (((tput r.tab p.2.key _).length : Nat) : Int) ≤ r.room
        rw [hl]; exact h.len
      · show r.ix.length = (tput r.tab p.2.key _).length
        rw [hl]; exact h.ixN
      · show (ixGet r.ix k).isSome = thas (tput r.tab p.2.key _) k
        have h5 : thas (tput r.tab p.2.key p.2.older) k = (decide (p.2.key = k) || thas r.tab k) := hasK_put kLt_ord h.tab (p.2.key, _) k
        rw [h5, h.ixT k]
        by_cases hk : p.2.key = k
        · rw [← hk, hh]; simp
        · rw [decide_eq_false hk]; rfl
    · have hl := delK_len kLt_ord h.tab hh
      have hi := ixDrop_len h.ix p.2.key
      rw [h.ixT p.2.key, hh, if_pos rfl, h.ixN] at hi
      refine ⟨delK_srt h.tab, fun q hq => h.key q (mem_delK.1 hq).1, ?_, h.room, h.own, h.ownT, h.ownL, h.ix.drop _, ?_, fun k => ?_, h.gr, h.grK, h.grL, Nat.mod_lt _ (by decide), h.site, h.cnt, h.d, h.t1⟩
      · show (((delK Prod.fst r.tab p.2.key).length : Nat) : Int) ≤ r.room
        have := h.len; omega
      · show (ixDrop r.ix p.2.key).length = (delK Prod.fst r.tab p.2.key).length
        omega
      · show (ixGet (ixDrop r.ix p.2.key) k).isSome = thas (tdel r.tab p.2.key) k
        have e1 : thas (tdel r.tab p.2.key) k = if k = p.2.key then false else thas r.tab k := by
          show hasK Prod.fst (delK Prod.fst r.tab p.2.key) k = _
          rw [← getK_has, getK_del kLt_ord h.tab]
          by_cases hk : k = p.2.key
          · rw [if_pos hk, if_pos hk]; rfl
          · rw [if_neg hk, if_neg hk, getK_has]; rfl
        rw [e1, ixGet_drop]
        by_cases hk : k = p.2.key
        · rw [if_pos hk, if_pos hk]; rfl
        · rw [if_neg hk, if_neg hk, h.ixT k]

theorem tick_state {r : RepV} (h : RepOK r) : ∀ i, i ≤ r.tab.length → RepOK ((r.tab.take i).foldl RepV.tick1 r) ∧ SameT r ((r.tab.take i).foldl RepV.tick1 r) ∧ ((r.tab.take i).foldl RepV.tick1 r).tab = (r.tab.take i).filterMap (left1 r.t1) ++ r.tab.drop i := by
  intro i
  induction i with
  | zero => intro _; exact ⟨h, rfl, by simp⟩
  | succ i ih =>
    intro hi
    obtain ⟨h1, h2, h3⟩ := ih (by omega)
    have hlt : i < r.tab.length := by omega
    have et : r.tab.take (i + 1) = r.tab.take i ++ [r.tab[i]] := List.take_succ_eq_append_getElem hlt
    have ed : r.tab.drop i = r.tab[i] :: r.tab.drop (i + 1) := List.drop_eq_getElem_cons hlt
    rw [et, List.foldl_append, List.foldl_cons, List.foldl_nil, List.filterMap_append]
    obtain ⟨q, hq⟩ : ∃ q, (r.tab.take i).foldl RepV.tick1 r = q := ⟨_, rfl⟩
    rw [hq] at h1 h2 h3 ⊢
    obtain ⟨p, hp⟩ : ∃ p, r.tab[i] = p := ⟨_, rfl⟩
    have hk : p.1 = p.2.key := h.key p (by rw [← hp]; exact List.getElem_mem hlt)
    rw [hp] at ed ⊢
    rw [ed] at h3
    have hm : p ∈ q.tab := by rw [h3]; simp
    have hh : thas q.tab p.2.key = true := hasK_iff.2 ⟨p, hm, hk⟩
    have hs : TSrt ((r.tab.take i).filterMap (left1 r.t1) ++ p :: r.tab.drop (i + 1)) := by rw [← h3]; exact h1.tab
    have e1 : q.t1 = r.t1 := by rw [h2]
    refine ⟨h1.tick1 hh, ?_, ?_⟩
    · unfold RepV.tick1
      split
      · exact h2
      · split
        · unfold SameT at h2 ⊢; rw [h2]
        · unfold SameT at h2 ⊢; rw [h2]
    · unfold RepV.tick1
      split
      · rename_i hd
        rw [h3]; simp [left1, hd]
      · rename_i hd
        split
        · rename_i ha
          rw [e1] at ha
          show tput q.tab p.2.key p.2.older = _
          rw [h3]
          have := putK_mid kLt_ord hs (x := (p.2.key, p.2.older)) hk.symm
          show putK kLt Prod.fst _ _ = _
          rw [this]
          simp [left1, hd, ha, hk]
        · rename_i ha
          rw [e1] at ha
          show tdel q.tab p.2.key = _
          rw [h3]
          have := delK_mid kLt_ord hs
          show delK Prod.fst _ _ = _
          rw [← hk, this]
          simp [left1, hd, ha]

theorem gtick_state {t2 : Int} {gr : List KE} (h : TSrt gr) (hk : ∀ p ∈ gr, p.1 = p.2.key) : ∀ i, i ≤ gr.length → TSrt ((gr.take i).foldl (gtick1 t2) gr) ∧ (∀ p ∈ (gr.take i).foldl (gtick1 t2) gr, p.1 = p.2.key) ∧
    ((gr.take i).foldl (gtick1 t2) gr) = (gr.take i).filterMap (gleft1 t2) ++ gr.drop i := by
  intro i
  induction i with
  | zero => intro _; exact ⟨h, hk, by simp⟩
  | succ i ih =>
    intro hi
    obtain ⟨h1, h2, h3⟩ := ih (by omega)
    have hlt : i < gr.length := by omega
    have et : gr.take (i + 1) = gr.take i ++ [gr[i]] := List.take_succ_eq_append_getElem hlt
    have ed : gr.drop i = gr[i] :: gr.drop (i + 1) := List.drop_eq_getElem_cons hlt
    rw [et, List.foldl_append, List.foldl_cons, List.foldl_nil, List.filterMap_append]
    obtain ⟨q, hq⟩ : ∃ q, (gr.take i).foldl (gtick1 t2) gr = q := ⟨_, rfl⟩
    rw [hq] at h1 h2 h3 ⊢
    obtain ⟨p, hp⟩ : ∃ p, gr[i] = p := ⟨_, rfl⟩
    have hpk : p.1 = p.2.key := hk p (by rw [← hp]; exact List.getElem_mem hlt)
    rw [hp] at ed ⊢
    rw [ed] at h3
    have hs : TSrt ((gr.take i).filterMap (gleft1 t2) ++ p :: gr.drop (i + 1)) := by rw [← h3]; exact h1
    unfold gtick1
    split
    · rename_i ha
      refine ⟨putK_srt kLt_ord h1 _, fun y hy => ?_, ?_⟩
      · rcases (mem_putK kLt_ord).1 hy with rfl | ⟨hy, _⟩
        · rfl
        · exact h2 y hy
      · have := putK_mid kLt_ord hs (x := (p.2.key, p.2.older)) hpk.symm
        show putK kLt Prod.fst q _ = _
        rw [h3, this]
        simp [gleft1, ha, hpk]
    · rename_i ha
      refine ⟨delK_srt h1, fun y hy => h2 y (mem_delK.1 hy).1, ?_⟩
      have := delK_mid kLt_ord hs
      show delK Prod.fst q _ = _
      rw [h3, ← hpk, this]
      simp [gleft1, ha]

theorem gticks {t2 : Int} {gr : List KE} (h : TSrt gr) (hk : ∀ p ∈ gr, p.1 = p.2.key) : gr.foldl (gtick1 t2) gr = gr.filterMap (gleft1 t2) := by
  have := (gtick_state h hk (t2 := t2) gr.length (Nat.le_refl _)).2.2
  rw [List.take_length, List.drop_length, List.append_nil] at this
  exact this
theorem RepV.ticks_tab {r : RepV} (h : RepOK r) : r.ticks.tab = r.tab.filterMap (left1 r.t1) ∧ SameT r r.ticks ∧ RepOK r.ticks := by
  have := tick_state h r.tab.length (Nat.le_refl _)
  rw [List.take_length, List.drop_length, List.append_nil] at this
  exact ⟨this.2.2, this.2.1, this.1⟩
theorem RepOK.ticked {r : RepV} (h : RepOK r) : RepOK r.ticked := by
  obtain ⟨h1, h2, h3⟩ := RepV.ticks_tab h
  have g := gtick_state (t2 := r.t2) h.gr h.grK r.gr.length (Nat.le_refl _)
  rw [List.take_length] at g
  have gl : (r.gr.foldl (gtick1 r.t2) r.gr).length ≤ 4096 := by
    rw [gticks h.gr h.grK]
    exact Nat.le_trans (List.length_filterMap_le _ _) h.grL
  exact ⟨h3.tab, h3.key, h3.len, h3.room, h3.own, h3.ownT, h3.ownL, h3.ix, h3.ixN, h3.ixT, g.1, g.2.1, gl, h3.sum, h3.site, h3.cnt, h3.d, h3.t1⟩
theorem RepOK.tick {r : RepV} (h : RepOK r) : RepOK r.tick := by
  unfold RepV.tick; split
  · exact h
  · exact h.ticked
end Go.Proofs.YtggbeedghblakaaGreatDoor
