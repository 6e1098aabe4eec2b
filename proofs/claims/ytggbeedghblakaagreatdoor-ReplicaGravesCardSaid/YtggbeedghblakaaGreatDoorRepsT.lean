/- RepsT: several texts, joined. The replica in plain Lean: a tick, and what is left behind it. -/
import Derived.Test.YtggbeedghblakaaGreatDoorRepsM
import Derived.Test.YtggbeedghblakaaGreatDoorNewestL
namespace Go.Qd
section
variable {κ β : Type} {lt : κ → κ → Bool} {f : β → κ} {A B : List β} {p x : β}
theorem srt_mid (h : SrtK lt f (A ++ p :: B)) : (∀ a ∈ A, lt (f a) (f p) = true) ∧ (∀ b ∈ B, lt (f p) (f b) = true) := by
  obtain ⟨_, h2, h3⟩ := List.pairwise_append.1 h
  exact ⟨fun a ha => h3 a ha p (by simp), (List.pairwise_cons.1 h2).1⟩
theorem putK_mid (O : Ordr lt) (h : SrtK lt f (A ++ p :: B)) (hx : f x = f p) : putK lt f (A ++ p :: B) x = A ++ x :: B := by
  obtain ⟨h1, h2⟩ := srt_mid h
  unfold putK
  rw [hx]
  have e1 : (A ++ p :: B).filter (fun y => lt (f y) (f p)) = A := by
    rw [List.filter_append, List.filter_cons_of_neg (by simp [O.irr]), List.filter_eq_self.2 h1, List.filter_eq_nil_iff.2 fun b hb => by simp [O.asym (h2 b hb)], List.append_nil]
  have e2 : (A ++ p :: B).filter (fun y => lt (f p) (f y)) = B := by
    rw [List.filter_append, List.filter_cons_of_neg (by simp [O.irr]), List.filter_eq_self.2 h2, List.filter_eq_nil_iff.2 fun a ha => by simp [O.asym (h1 a ha)], List.nil_append]
  rw [e1, e2]
theorem delK_mid [DecidableEq κ] (O : Ordr lt) (h : SrtK lt f (A ++ p :: B)) : delK f (A ++ p :: B) (f p) = A ++ B := by
  obtain ⟨h1, h2⟩ := srt_mid h
  unfold delK
  rw [List.filter_append, List.filter_cons_of_neg (by simp), List.filter_eq_self.2 fun a ha => by simp [O.ne (h1 a ha)], List.filter_eq_self.2 fun b hb => by simp [(O.ne (h2 b hb)).symm]]
end
end Go.Qd

namespace Go.Proofs.YtggbeedghblakaaGreatDoor
open Go.RowKit Go.Qd RepV

def EnV.older (e : EnV) : EnV := { e with age := e.age + 1 }
namespace RepV
/-- What a tick does with one pair of the table. -/
def tick1 (r : RepV) (p : KE) : RepV :=
  if p.2.dead = false then r
  else if p.2.age + 1 < r.t1 then { r with tab := tput r.tab p.2.key p.2.older }
  else { r with tab := tdel r.tab p.2.key, sum := (r.sum + (18446744073709551616 - hashE p.2.older)) % 18446744073709551616, ix := ixDrop r.ix p.2.key }
def goes1 (t1 : Int) (p : KE) : Bool := p.2.dead && !decide (p.2.age + 1 < t1)
end RepV
def gtick1 (t2 : Int) (gr : List KE) (p : KE) : List KE := if p.2.age + 1 < t2 then tput gr p.2.key p.2.older else tdel gr p.2.key
namespace RepV
def ticks (r : RepV) : RepV := r.tab.foldl tick1 r
def ticked (r : RepV) : RepV := { r.ticks with gr := r.gr.foldl (gtick1 r.t2) r.gr }
def tick (r : RepV) : RepV := if r.t1 = 0 then r else r.ticked
def tickG (r : RepV) : List ByteArray := if r.t1 = 0 then [] else (r.tab.filter (goes1 r.t1)).map fun p => p.2.key
end RepV

/-- What is left of a pair. -/
def left1 (t1 : Int) (p : KE) : Option KE := if p.2.dead = false then some p else if p.2.age + 1 < t1 then some (p.1, p.2.older) else none
def gleft1 (t2 : Int) (p : KE) : Option KE := if p.2.age + 1 < t2 then some (p.1, p.2.older) else none

/-- The same, but for table, sum and marks. -/
def SameT (r q : RepV) : Prop := q = { r with tab := q.tab, sum := q.sum, ix := q.ix }

theorem RepOK.tick1 {r : RepV} (h : RepOK r) {p : KE} (hh : thas r.tab p.2.key = true) : RepOK (r.tick1 p) := by
  unfold RepV.tick1
  split
  · exact h
  · split
    · have hl := tput_len h.tab p.2.key p.2.older
      rw [if_pos hh] at hl
      refine ⟨putK_srt kLt_ord h.tab _, fun q hq => ?_, ?_, h.room, h.own, h.ownT, h.ownL, h.ix, ?_, fun k => ?_, h.gr, h.grK, h.grL, h.sum, h.site, h.cnt, h.d, h.t1⟩
      · rcases (mem_putK kLt_ord).1 hq with rfl | ⟨hq, _⟩
        · rfl
        · exact h.key q hq
      · show (((tput r.tab p.2.key _).length : Nat) : Int) ≤ r.room
        rw [hl]; exact h.len
      · show r.ix.length = (tput r.tab p.2.key _).length
        rw [hl]; exact h.ixN
      · show (ixGet r.ix k).isSome = thas (tput r.tab p.2.key _) k
        have h5 : thas (tput r.tab p.2.key p.2.older) k = (decide (p.2.key = k) || thas r.tab k) := hasK_put kLt_ord h.tab (p.2.key, _) k
        rw [h5, h.ixT k]
        by_cases hk : p.2.key = k
        · rw [← hk, hh]; simp
        · rw [decide_eq_false hk]; rfl
    · have hl := delK_len kLt_ord h.tab hh
      have hi := ixDrop_len h.ix p.2.key
      rw [h.ixT p.2.key, hh, if_pos rfl, h.ixN] at hi
      refine ⟨delK_srt h.tab, fun q hq => h.key q (mem_delK.1 hq).1, ?_, h.room, h.own, h.ownT, h.ownL, h.ix.drop _, ?_, fun k => ?_, h.gr, h.grK, h.grL, Nat.mod_lt _ (by decide), h.site, h.cnt, h.d, h.t1⟩
      · show (((delK Prod.fst r.tab p.2.key).length : Nat) : Int) ≤ r.room
        have := h.len; omega
      · show (ixDrop r.ix p.2.key).length = (delK Prod.fst r.tab p.2.key).length
        omega
      · show (ixGet (ixDrop r.ix p.2.key) k).isSome = thas (tdel r.tab p.2.key) k
        have e1 : thas (tdel r.tab p.2.key) k = if k = p.2.key then false else thas r.tab k := by
          show hasK Prod.fst (delK Prod.fst r.tab p.2.key) k = _
          rw [← getK_has, getK_del kLt_ord h.tab]
          by_cases hk : k = p.2.key
          · rw [if_pos hk, if_pos hk]; rfl
          · rw [if_neg hk, if_neg hk, getK_has]; rfl
        rw [e1, ixGet_drop]
        by_cases hk : k = p.2.key
        · rw [if_pos hk, if_pos hk]; rfl
        · rw [if_neg hk, if_neg hk, h.ixT k]

theorem tick_state {r : RepV} (h : RepOK r) : ∀ i, i ≤ r.tab.length → RepOK ((r.tab.take i).foldl RepV.tick1 r) ∧ SameT r ((r.tab.take i).foldl RepV.tick1 r) ∧ ((r.tab.take i).foldl RepV.tick1 r).tab = (r.tab.take i).filterMap (left1 r.t1) ++ r.tab.drop i := by
  intro i
  induction i with
  | zero => intro _; exact ⟨h, rfl, by simp⟩
  | succ i ih =>
    intro hi
    obtain ⟨h1, h2, h3⟩ := ih (by omega)
    have hlt : i < r.tab.length := by omega
    have et : r.tab.take (i + 1) = r.tab.take i ++ [r.tab[i]] := List.take_succ_eq_append_getElem hlt
    have ed : r.tab.drop i = r.tab[i] :: r.tab.drop (i + 1) := List.drop_eq_getElem_cons hlt
    rw [et, List.foldl_append, List.foldl_cons, List.foldl_nil, List.filterMap_append]
    obtain ⟨q, hq⟩ : ∃ q, (r.tab.take i).foldl RepV.tick1 r = q := ⟨_, rfl⟩
    rw [hq] at h1 h2 h3 ⊢
    obtain ⟨p, hp⟩ : ∃ p, r.tab[i] = p := ⟨_, rfl⟩
    have hk : p.1 = p.2.key := h.key p (by rw [← hp]; exact List.getElem_mem hlt)
    rw [hp] at ed ⊢
    rw [ed] at h3
    have hm : p ∈ q.tab := by rw [h3]; simp
    have hh : thas q.tab p.2.key = true := hasK_iff.2 ⟨p, hm, hk⟩
    have hs : TSrt ((r.tab.take i).filterMap (left1 r.t1) ++ p :: r.tab.drop (i + 1)) := by rw [← h3]; exact h1.tab
    have e1 : q.t1 = r.t1 := by rw [h2]
    refine ⟨h1.tick1 hh, ?_, ?_⟩
    · unfold RepV.tick1
      split
      · exact h2
      · split
        · unfold SameT at h2 ⊢; rw [h2]
        · unfold SameT at h2 ⊢; rw [h2]
    · unfold RepV.tick1
      split
      · rename_i hd
        rw [h3]; simp [left1, hd]
      · rename_i hd
        split
        · rename_i ha
          rw [e1] at ha
          show tput q.tab p.2.key p.2.older = _
          rw [h3]
          have := putK_mid kLt_ord hs (x := (p.2.key, p.2.older)) hk.symm
          show putK kLt Prod.fst _ _ = _
          rw [this]
          simp [left1, hd, ha, hk]
        · rename_i ha
          rw [e1] at ha
          show tdel q.tab p.2.key = _
          rw [h3]
          have := delK_mid kLt_ord hs
          show delK Prod.fst _ _ = _
          rw [← hk, this]
          simp [left1, hd, ha]

theorem gtick_state {t2 : Int} {gr : List KE} (h : TSrt gr) (hk : ∀ p ∈ gr, p.1 = p.2.key) : ∀ i, i ≤ gr.length → TSrt ((gr.take i).foldl (gtick1 t2) gr) ∧ (∀ p ∈ (gr.take i).foldl (gtick1 t2) gr, p.1 = p.2.key) ∧
    ((gr.take i).foldl (gtick1 t2) gr) = (gr.take i).filterMap (gleft1 t2) ++ gr.drop i := by
  intro i
  induction i with
  | zero => intro _; exact ⟨h, hk, by simp⟩
  | succ i ih =>
    intro hi
    obtain ⟨h1, h2, h3⟩ := ih (by omega)
    have hlt : i < gr.length := by omega
    have et : gr.take (i + 1) = gr.take i ++ [gr[i]] := List.take_succ_eq_append_getElem hlt
    have ed : gr.drop i = gr[i] :: gr.drop (i + 1) := List.drop_eq_getElem_cons hlt
    rw [et, List.foldl_append, List.foldl_cons, List.foldl_nil, List.filterMap_append]
    obtain ⟨q, hq⟩ : ∃ q, (gr.take i).foldl (gtick1 t2) gr = q := ⟨_, rfl⟩
    rw [hq] at h1 h2 h3 ⊢
    obtain ⟨p, hp⟩ : ∃ p, gr[i] = p := ⟨_, rfl⟩
    have hpk : p.1 = p.2.key := hk p (by rw [← hp]; exact List.getElem_mem hlt)
    rw [hp] at ed ⊢
    rw [ed] at h3
    have hs : TSrt ((gr.take i).filterMap (gleft1 t2) ++ p :: gr.drop (i + 1)) := by rw [← h3]; exact h1
    unfold gtick1
    split
    · rename_i ha
      refine ⟨putK_srt kLt_ord h1 _, fun y hy => ?_, ?_⟩
      · rcases (mem_putK kLt_ord).1 hy with rfl | ⟨hy, _⟩
        · rfl
        · exact h2 y hy
      · have := putK_mid kLt_ord hs (x := (p.2.key, p.2.older)) hpk.symm
        show putK kLt Prod.fst q _ = _
        rw [h3, this]
        simp [gleft1, ha, hpk]
    · rename_i ha
      refine ⟨delK_srt h1, fun y hy => h2 y (mem_delK.1 hy).1, ?_⟩
      have := delK_mid kLt_ord hs
      show delK Prod.fst q _ = _
      rw [h3, ← hpk, this]
      simp [gleft1, ha]

theorem gticks {t2 : Int} {gr : List KE} (h : TSrt gr) (hk : ∀ p ∈ gr, p.1 = p.2.key) : gr.foldl (gtick1 t2) gr = gr.filterMap (gleft1 t2) := by
  have := (gtick_state h hk (t2 := t2) gr.length (Nat.le_refl _)).2.2
  rw [List.take_length, List.drop_length, List.append_nil] at this
  exact this
theorem RepV.ticks_tab {r : RepV} (h : RepOK r) : r.ticks.tab = r.tab.filterMap (left1 r.t1) ∧ SameT r r.ticks ∧ RepOK r.ticks := by
  have := tick_state h r.tab.length (Nat.le_refl _)
  rw [List.take_length, List.drop_length, List.append_nil] at this
  exact ⟨this.2.2, this.2.1, this.1⟩
theorem RepOK.ticked {r : RepV} (h : RepOK r) : RepOK r.ticked := by
  obtain ⟨h1, h2, h3⟩ := RepV.ticks_tab h
  have g := gtick_state (t2 := r.t2) h.gr h.grK r.gr.length (Nat.le_refl _)
  rw [List.take_length] at g
  have gl : (r.gr.foldl (gtick1 r.t2) r.gr).length ≤ 4096 := by
    rw [gticks h.gr h.grK]
    exact Nat.le_trans (List.length_filterMap_le _ _) h.grL
  exact ⟨h3.tab, h3.key, h3.len, h3.room, h3.own, h3.ownT, h3.ownL, h3.ix, h3.ixN, h3.ixT, g.1, g.2.1, gl, h3.sum, h3.site, h3.cnt, h3.d, h3.t1⟩
theorem RepOK.tick {r : RepV} (h : RepOK r) : RepOK r.tick := by
  unfold RepV.tick; split
  · exact h
  · exact h.ticked
end Go.Proofs.YtggbeedghblakaaGreatDoor

/- The replica in plain Lean: what each entry of the table is: it may be, the clock is not behind it, it is younger than T1. -/
namespace Go.Proofs.YtggbeedghblakaaGreatDoor
open Go.RowKit Go.Qd RepV

def entQ (r : RepV) (e : EnV) : Prop := checkE e = 0 ∧ e.ac ≤ r.cnt ∧ (e.dead = true → 0 < r.t1 → e.age < r.t1)
def GInv (r : RepV) : Prop := ∀ p ∈ r.tab, entQ r p.2

theorem wrote_same (r : RepV) (e : EnV) : (r.wrote e).tab = r.tab ∧ (r.wrote e).cnt = r.cnt ∧ (r.wrote e).t1 = r.t1 ∧ (r.wrote e).gr = r.gr ∧ (r.wrote e).site = r.site ∧ (r.wrote e).t2 = r.t2 ∧ (r.wrote e).d = r.d ∧ (r.wrote e).quota = r.quota ∧ (r.wrote e).nodes = r.nodes ∧ (r.wrote e).retain = r.retain ∧ (r.wrote e).sum = r.sum ∧ (r.wrote e).ix = r.ix := by
  unfold RepV.wrote; split <;> exact ⟨rfl, rfl, rfl, rfl, rfl, rfl, rfl, rfl, rfl, rfl, rfl, rfl⟩

/-- What an entry that is set down changes. -/
theorem set_same (r : RepV) (e : EnV) : (r.set e).cnt = r.cnt ∧ (r.set e).t1 = r.t1 ∧ (r.set e).t2 = r.t2 ∧ (r.set e).site = r.site ∧ (r.set e).quota = r.quota ∧ (r.set e).nodes = r.nodes ∧ (r.set e).retain = r.retain := by
  unfold RepV.set
  have f := wrote_same { r with d := r.d.add (encE e) } e
  split
  · exact ⟨rfl, rfl, rfl, rfl, rfl, rfl, rfl⟩
  · split
    · exact ⟨rfl, rfl, rfl, rfl, rfl, rfl, rfl⟩
    · split
      · exact ⟨f.2.1, f.2.2.1, f.2.2.2.2.2.1, f.2.2.2.2.1, f.2.2.2.2.2.2.2.1, f.2.2.2.2.2.2.2.2.1, f.2.2.2.2.2.2.2.2.2.1⟩
      · exact ⟨f.2.1, f.2.2.1, f.2.2.2.2.2.1, f.2.2.2.2.1, f.2.2.2.2.2.2.2.1, f.2.2.2.2.2.2.2.2.1, f.2.2.2.2.2.2.2.2.2.1⟩
theorem set_tab (r : RepV) (e : EnV) : (r.set e).tab = r.tab ∨ (checkE e = 0 ∧ (r.set e).tab = tput r.tab e.key e) := by
  unfold RepV.set
  have f := wrote_same { r with d := r.d.add (encE e) } e
  split
  · exact .inl rfl
  · rename_i hc
    split
    · exact .inl rfl
    · split
      · refine .inr ⟨by omega, ?_⟩
        show tput ({ r with d := r.d.add (encE e) }.wrote e).tab e.key e = _
        rw [f.1]
      · exact .inl f.1

namespace GInv
variable {r q : RepV} {e : EnV}
theorem same (h : GInv r) (h1 : q.tab = r.tab) (h2 : r.cnt ≤ q.cnt) (h3 : q.t1 = r.t1) : GInv q := fun p hp => by
  rw [h1] at hp
  obtain ⟨a, b, c⟩ := h p hp
  exact ⟨a, by omega, by rw [h3]; exact c⟩
theorem put (h : GInv r) (h1 : q.tab = tput r.tab e.key e) (h2 : r.cnt ≤ q.cnt) (h3 : q.t1 = r.t1) (he : entQ q e) : GInv q := fun p hp => by
  rw [h1] at hp
  rcases (mem_putK kLt_ord).1 hp with rfl | ⟨hp, _⟩
  · exact he
  · obtain ⟨a, b, c⟩ := h p hp
    exact ⟨a, by omega, by rw [h3]; exact c⟩
theorem set (h : GInv r) (h2 : e.ac ≤ r.cnt) (h3 : e.dead = true → 0 < r.t1 → e.age < r.t1) : GInv (r.set e) := by
  obtain ⟨s1, s2, _⟩ := set_same r e
  rcases set_tab r e with g | ⟨g0, g⟩
  · exact h.same g (Int.le_of_eq s1.symm) s2
  · exact h.put g (Int.le_of_eq s1.symm) s2 ⟨g0, by rw [s1]; exact h2, by rw [s2]; exact h3⟩
theorem see (h : GInv r) (c s : Int) : GInv (r.see c s) := by
  unfold RepV.see
  split
  · rename_i hc
    simp only [Bool.and_eq_true, decide_eq_true_eq] at hc
    exact h.same rfl (Int.le_of_lt hc.2) rfl
  · exact h
theorem write (h : GInv r) (k : ByteArray) (made : Int → Int → EnV) (hm : ∀ c s, (made c s).ac ≤ c ∧ ((made c s).dead = true → (made c s).age = 0)) : GInv (r.write k made) := by
  unfold RepV.write
  split
  · exact h
  · split
    · exact h
    · have h' : GInv { r with cnt := r.cnt + 1 } := h.same rfl (by show r.cnt ≤ r.cnt + 1; omega) rfl
      split
      · exact h'
      · refine h'.set (hm _ _).1 (fun hd h0 => ?_)
        rw [(hm _ _).2 hd]; exact h0
theorem woken (h : GInv r) (k : ByteArray) : GInv (r.woken k) := by
  unfold RepV.woken
  split
  · exact h
  · have h' : GInv { r with cnt := r.cnt + 1 } := h.same rfl (by show r.cnt ≤ r.cnt + 1; omega) rfl
    split
    · exact h'
    · exact h'.set (Int.le_refl _) (fun _ h0 => h0)
theorem stay (h : GInv r) (hr : RepOK r) (e : EnV) (hh : thas r.tab e.key = true) (he : checkE e = 0) (_ht : 0 ≤ r.t1) : GInv (r.stay e) := by
  unfold RepV.stay
  split
  · rename_i hd
    simp only [Bool.and_eq_true] at hd
    obtain ⟨p, hp, hpk, hpg⟩ := thas_mem hh hr.tab
    obtain ⟨a, b, c⟩ := h p hp
    rw [hpg] at hd ⊢
    have hk : p.2.key = e.key := by rw [← hr.key p hp, hpk]
    have hage := (checkE_ok a).2.2.2.2.2.2.2 hd.1
    have eage := (checkE_ok he).2.2.2.2.2.2.2 hd.2
    unfold keptB at hage eage
    simp only [Bool.and_eq_true, decide_eq_true_eq] at hage eage
    have hag : 0 ≤ r.agedV e p.2 ∧ r.agedV e p.2 ≤ p.2.age := by
      unfold RepV.agedV
      rw [if_neg (by rw [hd.2]; decide)]
      split
      · omega
      · rw [if_pos hd.1]; split <;> omega
    refine h.put (e := { p.2 with age := r.agedV e p.2 }) ?_ (Int.le_refl _) rfl ⟨?_, b, fun x y => ?_⟩
    · show tput r.tab e.key _ = tput r.tab p.2.key _
      rw [hk]
    · exact checkE_age a (fun x => by rw [x] at hd; cases hd.1) (by omega)
    · have := c x y
      show r.agedV e p.2 < r.t1
      omega
  · exact h
theorem mergeIn (h : GInv r) (hr : RepOK r) (e : EnV) (he : checkE e = 0) (hc : e.ac ≤ r.cnt) : GInv (r.mergeIn e) := by
  have ht := hr.t1.1
  unfold RepV.mergeIn
  split
  · rename_i hw
    refine h.stay hr e ?_ he ht
    unfold RepV.way at hw
    cases hb : thas r.tab e.key with
    | true => rfl
    | false =>
      rw [hb] at hw
      simp only [Bool.false_and, Bool.false_eq_true, if_false] at hw
      split at hw
      · cases hw
      · split at hw
        · cases hw
        · split at hw <;> cases hw
  · exact h
  · exact h
  · exact h.woken _
  · rename_i h0 h1 h2 h3
    refine h.set hc (fun hd hpos => ?_)
    have hd' : e.dead = true := hd
    have hw1 : ¬ (e.dead && (decide (0 < r.t1) && decide (r.t1 - 1 ≤ e.age))) = true := by
      intro hx
      unfold RepV.way at h1 h0
      by_cases hy : (thas r.tab e.key && !newerB e (tget r.tab e.key)) = true
      · rw [if_pos hy] at h0; exact h0 rfl
      · rw [if_neg hy, if_pos hx] at h1; exact h1 rfl
    simp only [Bool.and_eq_true, decide_eq_true_eq, not_and] at hw1
    have := hw1 hd' hpos
    show r.agedV e (tget r.tab e.key) < r.t1
    unfold RepV.agedV
    rw [if_neg (by rw [hd']; decide), if_neg (by omega)]
    split
    · split <;> omega
    · omega
theorem merge (h : GInv r) (hr : RepOK r) (e : EnV) : GInv (r.merge e) := by
  unfold RepV.merge
  by_cases hc : checkE e = 0
  · rw [if_neg (by simp [hc])]
    refine (h.see _ _).mergeIn (hr.see _ _) e hc ?_
    have hg := (checkE_ok hc).2.2.2.2.1
    unfold RepV.see
    split
    · exact Int.le_refl _
    · rename_i hx
      simp only [Bool.and_eq_true, decide_eq_true_eq, not_and] at hx
      have := hx hg
      omega
  · rw [if_pos hc]; exact h
theorem put' (h : GInv r) (k v : ByteArray) : GInv (r.put k v) := by
  unfold RepV.put
  split
  · exact h
  · exact h.write _ _ (fun c s => ⟨Int.le_refl _, fun hd => by cases hd⟩)
theorem tick (h : GInv r) (hr : RepOK r) : GInv r.tick := by
  unfold RepV.tick
  split
  · exact h
  · rename_i ht
    obtain ⟨h1, h2, h3⟩ := RepV.ticks_tab hr
    have e1 : r.ticked.tab = r.tab.filterMap (left1 r.t1) := h1
    have e2 : r.ticked.cnt = r.cnt ∧ r.ticked.t1 = r.t1 := by
      unfold SameT at h2
      unfold RepV.ticked
      rw [h2]; exact ⟨rfl, rfl⟩
    intro p hp
    rw [e1, List.mem_filterMap] at hp
    obtain ⟨q, hq, hl⟩ := hp
    obtain ⟨a, b, c⟩ := h q hq
    unfold left1 at hl
    split at hl
    · cases hl
      exact ⟨a, by rw [e2.1]; exact b, by rw [e2.2]; exact c⟩
    · rename_i hd
      split at hl
      · rename_i ha
        cases hl
        have hage := (checkE_ok a).2.2.2.2.2.2.2 (by simpa using hd)
        unfold keptB at hage
        simp only [Bool.and_eq_true, decide_eq_true_eq] at hage
        have ht1 := hr.t1.2
        refine ⟨checkE_age a (fun x => absurd x hd) (by omega), by rw [e2.1]; exact b, fun _ _ => by rw [e2.2]; exact ha⟩
      · cases hl
end GInv
end Go.Proofs.YtggbeedghblakaaGreatDoor

/- A tick in plain Lean: pair by pair. -/
namespace Go.Proofs.YtggbeedghblakaaGreatDoor
open Go.RowKit Go.Qd RepV

theorem gtick_at {t2 : Int} {gr : List KE} (h : TSrt gr) (hk : ∀ p ∈ gr, p.1 = p.2.key) {i : Nat} (hi : i < gr.length) :
    TSrt ((gr.take i).foldl (gtick1 t2) gr) ∧ thas ((gr.take i).foldl (gtick1 t2) gr) gr[i].2.key = true ∧ ((gr.take i).foldl (gtick1 t2) gr).length ≤ gr.length ∧
    (gr.take (i + 1)).foldl (gtick1 t2) gr = gtick1 t2 ((gr.take i).foldl (gtick1 t2) gr) gr[i] := by
  obtain ⟨h1, h2, h3⟩ := gtick_state (t2 := t2) h hk i (by omega)
  refine ⟨h1, ?_, ?_, ?_⟩
  · rw [h3]
    refine hasK_iff.2 ⟨gr[i], ?_, hk _ (List.getElem_mem hi)⟩
    rw [List.mem_append, List.mem_drop_iff_getElem]
    exact .inr ⟨0, by omega, by simp⟩
  · rw [h3, List.length_append, List.length_drop]
    have := List.length_filterMap_le (gleft1 t2) (gr.take i)
    rw [List.length_take] at this
    omega
  · rw [List.take_succ_eq_append_getElem hi, List.foldl_append]; rfl

theorem tick_at {r : RepV} (h : RepOK r) {i : Nat} (hi : i < r.tab.length) :
    RepOK ((r.tab.take i).foldl RepV.tick1 r) ∧ thas ((r.tab.take i).foldl RepV.tick1 r).tab r.tab[i].2.key = true ∧ ((r.tab.take i).foldl RepV.tick1 r).t1 = r.t1 ∧
    (r.tab.take (i + 1)).foldl RepV.tick1 r = ((r.tab.take i).foldl RepV.tick1 r).tick1 r.tab[i] := by
  obtain ⟨h1, h2, h3⟩ := tick_state h i (by omega)
  refine ⟨h1, ?_, ?_, ?_⟩
  · rw [h3]
    refine hasK_iff.2 ⟨r.tab[i], ?_, h.key _ (List.getElem_mem hi)⟩
    rw [List.mem_append, List.mem_drop_iff_getElem]
    exact .inr ⟨0, by omega, by simp⟩
  · unfold SameT at h2; rw [h2]
  · rw [List.take_succ_eq_append_getElem hi, List.foldl_append]; rfl

/-- The keys that leave, so far. -/
def tickGs (t1 : Int) (l : List KE) : List ByteArray := (l.filter (goes1 t1)).map fun p => p.2.key
theorem tickGs_snoc (t1 : Int) {l : List KE} {i : Nat} (hi : i < l.length) : tickGs t1 (l.take (i + 1)) = tickGs t1 (l.take i) ++ (if goes1 t1 l[i] = true then [l[i].2.key] else []) := by
  unfold tickGs
  rw [List.take_succ_eq_append_getElem hi, List.filter_append, List.map_append]
  congr 1
  split
  · rename_i h; rw [List.filter_cons_of_pos h]; rfl
  · rename_i h; rw [List.filter_cons_of_neg h]; rfl
theorem checkE_ages {e : EnV} (h : checkE e = 0) : 0 ≤ e.age ∧ e.age ≤ 2147483647 := by
  cases hd : e.dead with
  | false =>
    have := (checkE_ok h).2.2.2.2.2.2.1 hd
    unfold plainB at this
    simp only [Bool.and_eq_true, beq_iff_eq] at this
    rw [this.2.2.2]; decide
  | true =>
    have := ((checkE_ok h).2.2.2.2.2.2.2 hd).1
    unfold keptB at this
    simp only [Bool.and_eq_true, decide_eq_true_eq] at this
    exact this.2.2
end Go.Proofs.YtggbeedghblakaaGreatDoor
