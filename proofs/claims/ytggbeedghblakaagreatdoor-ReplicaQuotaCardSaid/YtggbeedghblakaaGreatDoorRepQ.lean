/- The replica in plain Lean: what each entry of the table is: it may be, the clock is not behind it, it is younger than T1. -/
import Derived.Test.YtggbeedghblakaaGreatDoorRepT
import Derived.Test.YtggbeedghblakaaGreatDoorNewestL
namespace Go.Proofs.YtggbeedghblakaaGreatDoor
open Go.RowKit Go.Qd RepV

def entQ (r : RepV) (e : EnV) : Prop := checkE e = 0 ∧ e.ac ≤ r.cnt ∧ (e.dead = true → 0 < r.t1 → e.age < r.t1)
def GInv (r : RepV) : Prop := ∀ p ∈ r.tab, entQ r p.2

theorem wrote_same (r : RepV) (e : EnV) : (r.wrote e).tab = r.tab ∧ (r.wrote e).cnt = r.cnt ∧ (r.wrote e).t1 = r.t1 ∧ (r.wrote e).gr = r.gr ∧ (r.wrote e).site = r.site ∧ (r.wrote e).t2 = r.t2 ∧ (r.wrote e).d = r.d ∧ (r.wrote e).quota = r.quota ∧ (r.wrote e).nodes = r.nodes ∧ (r.wrote e).retain = r.retain ∧ (r.wrote e).sum = r.sum ∧ (r.wrote e).ix = r.ix := by
  unfold RepV.wrote; split <;> exact ⟨rfl, rfl, rfl, rfl, rfl, rfl, rfl, rfl, rfl, rfl, rfl, rfl⟩

/-- What an entry that is set down changes. -/
theorem set_same (r : RepV) (e : EnV) : (r.set e).cnt = r.cnt ∧ (r.set e).t1 = r.t1 ∧ (r.set e).t2 = r.t2 ∧ (r.set e).site = r.site ∧ (r.set e).quota = r.quota ∧ (r.set e).nodes = r.nodes ∧ (r.set e).retain = r.retain := by
  unfold RepV.set
  have f := wrote_same { r with d := r.d.add (encE e) } e
  split
  · exact ⟨rfl, rfl, rfl, rfl, rfl, rfl, rfl⟩
  · split
    · exact ⟨rfl, rfl, rfl, rfl, rfl, rfl, rfl⟩
    · split
      · exact ⟨f.2.1, f.2.2.1, f.2.2.2.2.2.1, f.2.2.2.2.1, f.2.2.2.2.2.2.2.1, f.2.2.2.2.2.2.2.2.1, f.2.2.2.2.2.2.2.2.2.1⟩
      · exact ⟨f.2.1, f.2.2.1, f.2.2.2.2.2.1, f.2.2.2.2.1, f.2.2.2.2.2.2.2.1, f.2.2.2.2.2.2.2.2.1, f.2.2.2.2.2.2.2.2.2.1⟩
theorem set_tab (r : RepV) (e : EnV) : (r.set e).tab = r.tab ∨ (checkE e = 0 ∧ (r.set e).tab = tput r.tab e.key e) := by
  unfold RepV.set
  have f := wrote_same { r with d := r.d.add (encE e) } e
  split
  · exact .inl rfl
  · rename_i hc
    split
    · exact .inl rfl
    · split
      · refine .inr ⟨by omega, ?_⟩
        show tput ({ r with d := r.d.add (encE e) }.wrote e).tab e.key e = _
        rw [f.1]
      · exact .inl f.1

namespace GInv
variable {r q : RepV} {e : EnV}
theorem same (h : GInv r) (h1 : q.tab = r.tab) (h2 : r.cnt ≤ q.cnt) (h3 : q.t1 = r.t1) : GInv q := fun p hp => by
  rw [h1] at hp
  obtain ⟨a, b, c⟩ := h p hp
  exact ⟨a, by omega, by rw [h3]; exact c⟩
theorem put (h : GInv r) (h1 : q.tab = tput r.tab e.key e) (h2 : r.cnt ≤ q.cnt) (h3 : q.t1 = r.t1) (he : entQ q e) : GInv q := fun p hp => by
  rw [h1] at hp
  rcases (mem_putK kLt_ord).1 hp with rfl | ⟨hp, _⟩
  · exact he
  · obtain ⟨a, b, c⟩ := h p hp
    exact ⟨a, by omega, by rw [h3]; exact c⟩
theorem set (h : GInv r) (h2 : e.ac ≤ r.cnt) (h3 : e.dead = true → 0 < r.t1 → e.age < r.t1) : GInv (r.set e) := by
  obtain ⟨s1, s2, _⟩ := set_same r e
  rcases set_tab r e with g | ⟨g0, g⟩
  · exact h.same g (Int.le_of_eq s1.symm) s2
  · exact h.put g (Int.le_of_eq s1.symm) s2 ⟨g0, by rw [s1]; exact h2, by rw [s2]; exact h3⟩
theorem see (h : GInv r) (c s : Int) : GInv (r.see c s) := by
  unfold RepV.see
  split
  · rename_i hc
    simp only [Bool.and_eq_true, decide_eq_true_eq] at hc
    exact h.same rfl (Int.le_of_lt hc.2) rfl
  · exact h
theorem write (h : GInv r) (k : ByteArray) (made : Int → Int → EnV) (hm : ∀ c s, (made c s).ac ≤ c ∧ ((made c s).dead = true → (made c s).age = 0)) : GInv (r.write k made) := by
  unfold RepV.write
  split
  · exact h
  · split
    · exact h
    · have h' : GInv { r with cnt := r.cnt + 1 } := h.same rfl (by show r.cnt ≤ r.cnt + 1; omega) rfl
      split
      · exact h'
      · refine h'.set (hm _ _).1 (fun hd h0 => ?_)
        rw [(hm _ _).2 hd]; exact h0
theorem woken (h : GInv r) (k : ByteArray) : GInv (r.woken k) := by
  unfold RepV.woken
  split
  · exact h
  · have h' : GInv { r with cnt := r.cnt + 1 } := h.same rfl (by show r.cnt ≤ r.cnt + 1; omega) rfl
    split
    · exact h'
    · exact h'.set (Int.le_refl _) (fun _ h0 => h0)
theorem stay (h : GInv r) (hr : RepOK r) (e : EnV) (hh : thas r.tab e.key = true) (he : checkE e = 0) (ht : 0 ≤ r.t1) : GInv (r.stay e) := by
  unfold RepV.stay
  split
  · rename_i hd
    simp only [Bool.and_eq_true] at hd
    obtain ⟨p, hp, hpk, hpg⟩ := thas_mem hh hr.tab
    obtain ⟨a, b, c⟩ := h p hp
    rw [hpg] at hd ⊢
    have hk : p.2.key = e.key := by rw [← hr.key p hp, hpk]
    have hage := (checkE_ok a).2.2.2.2.2.2.2 hd.1
    have eage := (checkE_ok he).2.2.2.2.2.2.2 hd.2
    unfold keptB at hage eage
    simp only [Bool.and_eq_true, decide_eq_true_eq] at hage eage
    have hag : 0 ≤ r.agedV e p.2 ∧ r.agedV e p.2 ≤ p.2.age := by
      unfold RepV.agedV
      rw [if_neg (by rw [hd.2]; decide)]
      split
      · omega
      · rw [if_pos hd.1]; split <;> omega
    refine h.put (e := { p.2 with age := r.agedV e p.2 }) ?_ (Int.le_refl _) rfl ⟨?_, b, fun x y => ?_⟩
    · show tput r.tab e.key _ = tput r.tab p.2.key _
      rw [hk]
    · exact checkE_age a (fun x => by rw [x] at hd; cases hd.1) (by omega)
    · have := c x y
      show r.agedV e p.2 < r.t1
      omega
  · exact h
theorem mergeIn (h : GInv r) (hr : RepOK r) (e : EnV) (he : checkE e = 0) (hc : e.ac ≤ r.cnt) : GInv (r.mergeIn e) := by
  have ht := hr.t1.1
  unfold RepV.mergeIn
  split
  · rename_i hw
    refine h.stay hr e ?_ he ht
    unfold RepV.way at hw
    cases hb : thas r.tab e.key with
    | true => rfl
    | false =>
      rw [hb] at hw
      simp only [Bool.false_and, Bool.false_eq_true, if_false] at hw
      split at hw
      · cases hw
      · split at hw
        · cases hw
        · split at hw <;> cases hw
  · exact h
  · exact h
  · exact h.woken _
  · rename_i h0 h1 h2 h3
    refine h.set hc (fun hd hpos => ?_)
    have hd' : e.dead = true := hd
    have hw1 : ¬ (e.dead && (decide (0 < r.t1) && decide (r.t1 - 1 ≤ e.age))) = true := by
      intro hx
      unfold RepV.way at h1 h0
      by_cases hy : (thas r.tab e.key && !newerB e (tget r.tab e.key)) = true
      · rw [if_pos hy] at h0; exact h0 rfl
      · rw [if_neg hy, if_pos hx] at h1; exact h1 rfl
    simp only [Bool.and_eq_true, decide_eq_true_eq, not_and] at hw1
    have := hw1 hd' hpos
    show r.agedV e (tget r.tab e.key) < r.t1
    unfold RepV.agedV
    rw [if_neg (by rw [hd']; decide), if_neg (by omega)]
    split
    · split <;> omega
    · omega
theorem merge (h : GInv r) (hr : RepOK r) (e : EnV) : GInv (r.merge e) := by
  unfold RepV.merge
  by_cases hc : checkE e = 0
  · rw [if_neg (by simp [hc])]
    refine (h.see _ _).mergeIn (hr.see _ _) e hc ?_
    have hg := (checkE_ok hc).2.2.2.2.1
    unfold RepV.see
    split
    · exact Int.le_refl _
    · rename_i hx
      simp only [Bool.and_eq_true, decide_eq_true_eq, not_and] at hx
      have := hx hg
      omega
  · rw [if_pos hc]; exact h
theorem put' (h : GInv r) (k v : ByteArray) : GInv (r.put k v) := by
  unfold RepV.put
  split
  · exact h
  · exact h.write _ _ (fun c s => ⟨Int.le_refl _, fun hd => by cases hd⟩)
theorem tick (h : GInv r) (hr : RepOK r) : GInv r.tick := by
  unfold RepV.tick
  split
  · exact h
  · rename_i ht
    obtain ⟨h1, h2, h3⟩ := RepV.ticks_tab hr
    have e1 : r.ticked.tab = r.tab.filterMap (left1 r.t1) := h1
    have e2 : r.ticked.cnt = r.cnt ∧ r.ticked.t1 = r.t1 := by
      unfold SameT at h2
      unfold RepV.ticked
      rw [h2]; exact ⟨rfl, rfl⟩
    intro p hp
    rw [e1, List.mem_filterMap] at hp
    obtain ⟨q, hq, hl⟩ := hp
    obtain ⟨a, b, c⟩ := h q hq
    unfold left1 at hl
    split at hl
    · cases hl
      exact ⟨a, by rw [e2.1]; exact b, by rw [e2.2]; exact c⟩
    · rename_i hd
      split at hl
      · rename_i ha
        cases hl
        have hage := (checkE_ok a).2.2.2.2.2.2.2 (by simpa using hd)
        unfold keptB at hage
        simp only [Bool.and_eq_true, decide_eq_true_eq] at hage
        have ht1 := hr.t1.2
        refine ⟨checkE_age a (fun x => absurd x hd) (by omega), by rw [e2.1]; exact b, fun _ _ => by rw [e2.2]; exact ha⟩
      · cases hl
end GInv
end Go.Proofs.YtggbeedghblakaaGreatDoor
