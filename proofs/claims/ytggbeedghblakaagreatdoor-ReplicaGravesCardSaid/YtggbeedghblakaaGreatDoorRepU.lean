/- The replica in plain Lean: each grave may be, and is dead; Delete; how many keys a site writes. -/
import Derived.Test.YtggbeedghblakaaGreatDoorRepsT
import Derived.Test.YtggbeedghblakaaGreatDoorDels
namespace Go.Proofs.YtggbeedghblakaaGreatDoor
open Go.RowKit Go.Qd RepV

def GrInv (r : RepV) : Prop := ∀ p ∈ r.gr, checkE p.2 = 0 ∧ p.2.dead = true

theorem both_ok {g e : EnV} (hg : checkE g = 0) (he : checkE e = 0) (hd : g.dead = true) (hs : cmpS g.sc g.ss e.sc e.ss = 0) : checkE (bothE g e) = 0 := by
  obtain ⟨a1, a2, a3, a4, a5, a6, a7, a8⟩ := checkE_ok hg
  obtain ⟨b1, b2, b3, b4, b5, b6, b7, b8⟩ := checkE_ok he
  have ha := checkE_ages hg
  have hb := checkE_ages he
  have hse : g.sc = e.sc ∧ g.ss = e.ss := by
    unfold cmpS orI cmpI at hs
    split at hs <;> split at hs <;> (try split at hs) <;> (try split at hs) <;> omega
  refine checkE_of ⟨a1, a2⟩ a3 a4 ?_ ?_ (fun h => ?_) fun h => ?_
  · unfold bothE; dsimp only; split <;> assumption
  · unfold bothE; dsimp only
    split
    · rw [hse.1, hse.2]; exact b6
    · exact a6
  · have h' : g.dead = false := h
    rw [hd] at h'; cases h'
  · obtain ⟨g1, g2⟩ := a8 hd
    refine ⟨?_, g2⟩
    unfold keptB at g1 ⊢
    simp only [Bool.and_eq_true, decide_eq_true_eq] at g1 ⊢
    refine ⟨g1.1, g1.2.1, ?_⟩
    unfold bothE; dsimp only
    split <;> omega

theorem bury_inv {site t2 : Int} {gr : List KE} {e : EnV} (hs : TSrt gr) (h : ∀ p ∈ gr, checkE p.2 = 0 ∧ p.2.dead = true) : ∀ p ∈ buryT site t2 gr e, checkE p.2 = 0 ∧ p.2.dead = true := by
  have put : ∀ x : EnV, checkE x = 0 ∧ x.dead = true → ∀ p ∈ tput gr e.key x, checkE p.2 = 0 ∧ p.2.dead = true := fun x hx p hp => by
    rcases (mem_putK kLt_ord).1 hp with rfl | ⟨hp, _⟩
    · exact hx
    · exact h p hp
  unfold buryT
  split
  · exact h
  · rename_i hc
    simp only [Bool.or_eq_true, Bool.not_eq_true', decide_eq_true_eq, not_or, Decidable.not_not, Bool.not_eq_false] at hc
    have hed : e.dead = true := by have := hc.2.1; unfold dutyB at this; simp only [Bool.and_eq_true] at this; exact this.1
    split
    · rename_i hh
      obtain ⟨p, hp, _, hpg⟩ := thas_mem hh hs
      obtain ⟨g1, g2⟩ := h p hp
      rw [← hpg] at g1 g2
      split
      · exact h
      · split
        · rename_i hz
          exact put _ ⟨both_ok g1 hc.1 g2 hz, g2⟩
        · exact put _ ⟨hc.1, hed⟩
    · split
      · exact put _ ⟨hc.1, hed⟩
      · exact h

theorem set_gr (r : RepV) (e : EnV) : (r.set e).gr = r.gr ∨ (r.set e).gr = buryT r.site r.t2 r.gr e := by
  unfold RepV.set
  have f := wrote_same { r with d := r.d.add (encE e) } e
  split
  · exact .inl rfl
  · split
    · exact .inl rfl
    · right
      split
      · show buryT ({ r with d := r.d.add (encE e) }.wrote e).site ({ r with d := r.d.add (encE e) }.wrote e).t2 ({ r with d := r.d.add (encE e) }.wrote e).gr e = _
        rw [f.2.2.2.1, f.2.2.2.2.1, f.2.2.2.2.2.1]
      · show buryT ({ r with d := r.d.add (encE e) }.wrote e).site ({ r with d := r.d.add (encE e) }.wrote e).t2 ({ r with d := r.d.add (encE e) }.wrote e).gr e = _
        rw [f.2.2.2.1, f.2.2.2.2.1, f.2.2.2.2.2.1]

namespace GrInv
variable {r q : RepV} {e : EnV}
theorem same (h : GrInv r) (h1 : q.gr = r.gr) : GrInv q := by unfold GrInv; rw [h1]; exact h
theorem set (h : GrInv r) (hr : RepOK r) (e : EnV) : GrInv (r.set e) := by
  rcases set_gr r e with g | g
  · exact h.same g
  · unfold GrInv; rw [g]; exact bury_inv hr.gr h
theorem see (h : GrInv r) (c s : Int) : GrInv (r.see c s) := by
  unfold RepV.see
  split
  · exact h.same rfl
  · exact h
theorem write (h : GrInv r) (hr : RepOK r) (k : ByteArray) (made : Int → Int → EnV) : GrInv (r.write k made) := by
  have h1 : RepOK { r with cnt := r.cnt + 1 } := hr.withC (by have := hr.cnt; omega)
  have h' : GrInv { r with cnt := r.cnt + 1 } := h.same rfl
  unfold RepV.write
  split
  · exact h
  · split
    · exact h
    · split
      · exact h'
      · exact h'.set h1 _
theorem woken (h : GrInv r) (hr : RepOK r) (k : ByteArray) : GrInv (r.woken k) := by
  have h1 : RepOK { r with cnt := r.cnt + 1 } := hr.withC (by have := hr.cnt; omega)
  have h' : GrInv { r with cnt := r.cnt + 1 } := h.same rfl
  unfold RepV.woken
  split
  · exact h
  · split
    · exact h'
    · exact h'.set h1 _
theorem stay (h : GrInv r) (e : EnV) : GrInv (r.stay e) := by
  unfold RepV.stay
  split
  · exact h.same rfl
  · exact h
theorem merge (h : GrInv r) (hr : RepOK r) (e : EnV) : GrInv (r.merge e) := by
  unfold RepV.merge
  split
  · exact h
  · have h1 := hr.see e.ac e.az
    have h2 := h.see e.ac e.az
    unfold RepV.mergeIn
    split
    · exact h2.stay e
    · exact h2
    · exact h2
    · exact h2.woken h1 _
    · exact h2.set h1 _
theorem put' (h : GrInv r) (hr : RepOK r) (k v : ByteArray) : GrInv (r.put k v) := by
  unfold RepV.put
  split
  · exact h
  · exact h.write hr _ _
theorem del (h : GrInv r) (hr : RepOK r) (k : ByteArray) (kp : Int) : GrInv (r.del k kp) := by
  unfold RepV.del
  split
  · exact h
  · split
    · exact h.write hr _ _
    · exact h
theorem tick (h : GrInv r) (hr : RepOK r) (ht : r.t2 ≤ 2147483647) : GrInv r.tick := by
  unfold RepV.tick
  split
  · exact h
  · show ∀ p ∈ r.gr.foldl (gtick1 r.t2) r.gr, _
    have h3 := (gtick_state (t2 := r.t2) hr.gr hr.grK r.gr.length (Nat.le_refl _)).2.2
    rw [List.take_length, List.drop_length, List.append_nil] at h3
    rw [h3]
    intro p hp
    rw [List.mem_filterMap] at hp
    obtain ⟨q, hq, hl⟩ := hp
    obtain ⟨a, b⟩ := h q hq
    unfold gleft1 at hl
    split at hl
    · rename_i ha
      cases hl
      have := checkE_ages a
      exact ⟨checkE_age a (fun x => by rw [b] at x; cases x) (by omega), b⟩
    · cases hl
end GrInv

theorem GInv.del {r : RepV} (h : GInv r) (k : ByteArray) (kp : Int) : GInv (r.del k kp) := by
  unfold RepV.del
  split
  · exact h
  · split
    · exact h.write _ _ (fun c s => ⟨Int.le_refl _, fun _ => rfl⟩)
    · exact h
theorem RepOK.del {r : RepV} (h : RepOK r) (k : ByteArray) (kp : Int) : RepOK (r.del k kp) := by
  unfold RepV.del
  split
  · exact h
  · split
    · exact h.write _ _
    · exact h

/-- The configuration stays. -/
structure SameC (r q : RepV) : Prop where
  nodes : q.nodes = r.nodes
  quota : q.quota = r.quota
  retain : q.retain = r.retain
  t1 : q.t1 = r.t1
  t2 : q.t2 = r.t2
  site : q.site = r.site
namespace SameC
variable {r q s : RepV}
theorem refl (r : RepV) : SameC r r := ⟨rfl, rfl, rfl, rfl, rfl, rfl⟩
theorem trans (a : SameC r q) (b : SameC q s) : SameC r s := ⟨b.1.trans a.1, b.2.trans a.2, b.3.trans a.3, b.4.trans a.4, b.5.trans a.5, b.6.trans a.6⟩
theorem set (r : RepV) (e : EnV) : SameC r (r.set e) := by
  obtain ⟨_, h2, h3, h4, h5, h6, h7⟩ := set_same r e
  exact ⟨h6, h5, h7, h2, h3, h4⟩
theorem see (r : RepV) (c s : Int) : SameC r (r.see c s) := by
  unfold RepV.see
  split <;> exact ⟨rfl, rfl, rfl, rfl, rfl, rfl⟩
theorem cnt (r : RepV) (c : Int) : SameC r { r with cnt := c } := ⟨rfl, rfl, rfl, rfl, rfl, rfl⟩
theorem write (r : RepV) (k : ByteArray) (made : Int → Int → EnV) : SameC r (r.write k made) := by
  unfold RepV.write
  split
  · exact refl r
  · split
    · exact refl r
    · split
      · exact cnt r _
      · exact (cnt r _).trans (set _ _)
theorem woken (r : RepV) (k : ByteArray) : SameC r (r.woken k) := by
  unfold RepV.woken
  split
  · exact refl r
  · split
    · exact cnt r _
    · exact (cnt r _).trans (set _ _)
theorem stay (r : RepV) (e : EnV) : SameC r (r.stay e) := by
  unfold RepV.stay
  split <;> exact ⟨rfl, rfl, rfl, rfl, rfl, rfl⟩
theorem merge (r : RepV) (e : EnV) : SameC r (r.merge e) := by
  unfold RepV.merge
  split
  · exact refl r
  · refine (see r e.ac e.az).trans ?_
    unfold RepV.mergeIn
    split
    · exact stay _ _
    · exact refl _
    · exact refl _
    · exact woken _ _
    · exact set _ _
theorem put (r : RepV) (k v : ByteArray) : SameC r (r.put k v) := by
  unfold RepV.put
  split
  · exact refl r
  · exact write _ _ _
theorem del (r : RepV) (k : ByteArray) (kp : Int) : SameC r (r.del k kp) := by
  unfold RepV.del
  split
  · exact refl r
  · split
    · exact write _ _ _
    · exact refl r
theorem tick {r : RepV} (hr : RepOK r) : SameC r r.tick := by
  unfold RepV.tick
  split
  · exact refl r
  · obtain ⟨_, h2, _⟩ := tick_state hr r.tab.length (Nat.le_refl _)
    rw [List.take_length] at h2
    unfold SameT at h2
    unfold RepV.ticked RepV.ticks
    rw [h2]
    exact ⟨rfl, rfl, rfl, rfl, rfl, rfl⟩
end SameC

/-- Who puts a new key had room in his quota. -/
theorem put_quota {r : RepV} {k v : ByteArray} (hr : RepOK r) (h : r.putW k v = 0) : (r.put k v).own.length ≤ r.own.length ∨ (r.own.length : Int) < r.quota := by
  unfold RepV.putW at h
  unfold RepV.put
  split
  · exact .inl (Nat.le_refl _)
  · rename_i hx
    rw [if_neg hx] at h
    unfold RepV.writeW at h
    unfold RepV.write
    cases hf : r.fullB k with
    | true => rw [hf] at h; simp at h
    | false =>
      unfold RepV.fullB at hf
      simp only [Bool.or_eq_false_iff, Bool.and_eq_false_iff, Bool.not_eq_false', decide_eq_false_iff_not] at hf
      rcases hf.1 with hk | hq
      · left
        simp only [Bool.false_eq_true, if_false]
        have key : ∀ q : RepV, q.own = r.own → (q.set (putE k v (r.cnt + 1) r.site)).own.length ≤ r.own.length := fun q hq => by
          have hw : ∀ x : RepV, x.own = r.own → (x.wrote (putE k v (r.cnt + 1) r.site)).own.length ≤ r.own.length := fun x hx => by
            unfold RepV.wrote
            split
            · show (RepV.ownPut x.own k).length ≤ _
              unfold RepV.ownPut
              split
              · rw [hx]
                exact Nat.le_of_eq (putK_len_old kLt_ord hr.own (k, true) hk)
              · rw [hx]; exact Nat.le_refl _
            · rw [hx]; exact Nat.le_refl _
          unfold RepV.set
          split
          · rw [hq]; exact Nat.le_refl _
          · split
            · show q.own.length ≤ _; rw [hq]; exact Nat.le_refl _
            · split
              · exact hw { q with d := q.d.add (encE (putE k v (r.cnt + 1) r.site)) } hq
              · exact hw { q with d := q.d.add (encE (putE k v (r.cnt + 1) r.site)) } hq
        split
        · exact Nat.le_refl _
        · split
          · exact Nat.le_refl _
          · exact key _ rfl
      · right; omega
end Go.Proofs.YtggbeedghblakaaGreatDoor
