/- What comes in again, in plain Lean: it is there, and all stays but ages. -/
import Derived.Test.YtggbeedghblakaaGreatDoorLogs
namespace Go.Proofs.YtggbeedghblakaaGreatDoor
open Go.RowKit Go.Qd RepV

theorem tput_at {l : List KE} (hs : TSrt l) {i : Nat} (hi : i < l.length) (v : EnV) : tput l l[i].1 v = l.set i (l[i].1, v) := by
  have e : l = l.take i ++ l[i] :: l.drop (i + 1) := by rw [← List.drop_eq_getElem_cons, List.take_append_drop]
  have h2 : TSrt (l.take i ++ l[i] :: l.drop (i + 1)) := by rw [← e]; exact hs
  have := putK_mid (f := Prod.fst) (x := (l[i].1, v)) kLt_ord h2 rfl
  rw [← e] at this
  rw [List.set_eq_take_append_cons_drop, if_pos hi]
  exact this

structure IdI (q0 q : RepV) : Prop where
  ok : RepOK q
  g : GInv q
  cnt : q.cnt = q0.cnt
  sum : q.sum = q0.sum
  own : q.own = q0.own
  len : q.tab.length = q0.tab.length
  at_ : ∀ i (h : i < q.tab.length) (h' : i < q0.tab.length), q.tab[i].1 = q0.tab[i].1 ∧ alikeE q.tab[i].2 q0.tab[i].2

theorem IdI.start {q : RepV} (h1 : RepOK q) (h2 : GInv q) : IdI q q := ⟨h1, h2, rfl, rfl, rfl, rfl, fun _ _ _ => ⟨rfl, alikeE_rfl _⟩⟩
theorem IdI.step {q0 q : RepV} (h0 : RepOK q0) (g0 : GInv q0) (h : IdI q0 q) {i : Nat} (hi : i < q0.tab.length) : q.mergeK q0.tab[i].2 = 0 ∧ q.mergeW q0.tab[i].2 = 0 ∧ q.mergeX q0.tab[i].2 = EnV.zero ∧ IdI q0 (q.merge q0.tab[i].2) := by
  have hi' : i < q.tab.length := by rw [h.len]; exact hi
  obtain ⟨k1, k2⟩ := h.at_ i hi' hi
  have hm0 := List.getElem_mem hi
  have hm := List.getElem_mem hi'
  have hk0 := h0.key _ hm0
  obtain ⟨a, b, _⟩ := g0 _ hm0
  obtain ⟨p, hp⟩ : ∃ p, q.tab[i] = p := ⟨_, rfl⟩
  obtain ⟨e, he⟩ : ∃ e, q0.tab[i].2 = e := ⟨_, rfl⟩
  rw [hp] at hm k1 k2
  rw [he] at a b hk0 k2 ⊢
  have hpk : p.1 = e.key := k1.trans hk0
  have hth : thas q.tab e.key = true := hasK_iff.2 ⟨p, hm, hpk⟩
  have htg : tget q.tab e.key = p.2 := by rw [← hpk]; exact tget_mem h.ok.tab hm
  have hn : newerB e p.2 = false := by
    rw [← newerB_irr e]
    exact newerB_ver rfl rfl rfl rfl k2.2.2.2.1 k2.2.2.2.2.1 k2.2.2.2.2.2.1 k2.2.2.2.2.2.2.1
  have hsee : q.see e.ac e.az = q := by
    unfold RepV.see
    rw [if_neg]
    simp only [Bool.and_eq_true, decide_eq_true_eq, not_and]
    intro _
    have := h.cnt
    omega
  have hw : q.way e = 0 := by unfold RepV.way; rw [hth, htg, hn]; rfl
  have hst : IdI q0 (q.stay e) := by
    have o1 := h.ok.stay e hth
    have o2 := h.g.stay h.ok e hth a h.ok.t1.1
    unfold RepV.stay at o1 o2 ⊢
    split
    · rename_i hd
      rw [if_pos hd] at o1 o2
      have et : tput q.tab e.key { tget q.tab e.key with age := q.agedV e (tget q.tab e.key) } = q.tab.set i (p.1, { p.2 with age := q.agedV e p.2 }) := by
        rw [htg, ← hpk, ← hp]; exact tput_at h.ok.tab hi' _
      refine ⟨o1, o2, h.cnt, h.sum, h.own, ?_, fun j hj hj' => ?_⟩
      · show (tput q.tab e.key _).length = _
        rw [et, List.length_set]; exact h.len
      · have hj2 : j < (q.tab.set i (p.1, { p.2 with age := q.agedV e p.2 })).length := by rw [List.length_set, h.len]; exact hj'
        have e3 : (tput q.tab e.key { tget q.tab e.key with age := q.agedV e (tget q.tab e.key) })[j]'hj = (q.tab.set i (p.1, { p.2 with age := q.agedV e p.2 }))[j]'hj2 := by congr 1
        show ((tput q.tab e.key { tget q.tab e.key with age := q.agedV e (tget q.tab e.key) })[j]'hj).1 = _ ∧ alikeE ((tput q.tab e.key { tget q.tab e.key with age := q.agedV e (tget q.tab e.key) })[j]'hj).2 _
        rw [e3, List.getElem_set]
        by_cases hij : i = j
        · subst hij
          rw [if_pos rfl]
          refine ⟨k1, ?_⟩
          rw [he]
          obtain ⟨c1, c2, c3, c4, c5, c6, c7, c8⟩ := k2
          exact ⟨c1, c2, c3, c4, c5, c6, c7, c8⟩
        · rw [if_neg hij]
          exact h.at_ j (by rw [h.len]; exact hj') hj'
    · exact h
  unfold RepV.mergeK RepV.mergeW RepV.mergeX RepV.merge
  have na : ¬ checkE e ≠ 0 := fun g => g a
  simp only [if_neg na, hsee]
  simp only [RepV.mergeIn, RepV.mergeInK, RepV.mergeInW, RepV.mergeInX, hw]
  exact ⟨trivial, trivial, trivial, hst⟩
end Go.Proofs.YtggbeedghblakaaGreatDoor
