/- OverlayBeats: the plain law. -/
import Derived.Test.YtbpdchaeakihkaaGreatSpkA
namespace Go.Proofs.YtbpdchaeakihkaaGreat
open Go.RowKit Go.Qd

theorem BI_node {c : List Int} {O : OV} (h1 : O.cfg = c) (h2 : O.V.self = 0) {x : Int} (h : 0 ≤ x ∧ x < c.getD 0 0 ∧ x ≠ 0) : onodeB O x = true := by
  unfold onodeB thereB; rw [h1, h2]; simp only [Bool.and_eq_true, decide_eq_true_eq]; exact ⟨⟨h.1, h.2.1⟩, h.2.2⟩
/-- What is kept all the while. -/
structure BI (c : List Int) (t : Int) (O : OV) : Prop where
  ok : OOK O
  cfg : O.cfg = c
  me : O.V.self = 0
  hh : ∀ j : Nat, 0 ≤ O.heard.getD j 0 ∧ O.heard.getD j 0 ≤ 1
  fl : O.L = []
  fc : O.C = []
  tk : O.ticks = t
  si : 0 ≤ O.since ∧ O.since ≤ 4 ∧ (O.asked ≠ -1 → O.since ≤ 3)
  nd : ∀ x ∈ O.V.a, 0 ≤ x ∧ x < c.getD 0 0 ∧ x ≠ 0

theorem getD_set {l : List Int} {i j : Nat} {x : Int} : (l.set i x).getD j 0 = if i = j ∧ j < l.length then x else l.getD j 0 := by
  by_cases h : i = j
  · subst h
    by_cases g : i < l.length
    · simp [g]
    · simp [g]
  · simp [h]

theorem hh_set {l : List Int} {m : Int} (_hm : 0 ≤ m) (h : ∀ j : Nat, 0 ≤ l.getD j 0 ∧ l.getD j 0 ≤ m) (i : Nat) {x : Int} (hx : 0 ≤ x ∧ x ≤ m) : ∀ j : Nat, 0 ≤ (l.set i x).getD j 0 ∧ (l.set i x).getD j 0 ≤ m := by
  intro j
  rw [getD_set]
  split
  · exact hx
  · exact h j

theorem BI.new {c : List Int} (hc : c.length = 20) (hr : rightB c = true) (D : List Int) : BI c 0 (newO c 0 D) := by
  have h0 := (cfg_views hc hr).2.2
  refine ⟨new_ok hc hr ⟨Int.le_refl _, by omega⟩, rfl, rfl, ?_, rfl, rfl, rfl, ⟨Int.le_refl _, (show (0 : Int) ≤ 4 by decide), fun _ => (show (0 : Int) ≤ 3 by decide)⟩, fun x hx => by cases hx⟩
  intro j
  have : (newO c 0 D).heard.getD j 0 = 0 := by
    show (List.replicate 12 (0 : Int)).getD j 0 = 0
    rw [List.getD_eq_getElem?_getD, List.getElem?_replicate]; split <;> rfl
  rw [this]; decide

theorem raiseV_self (V : VV) (D : List Int) (p : Int) : (raiseV V D p).self = V.self := by unfold raiseV; split <;> rfl
theorem BI.join {c : List Int} {t : Int} {O : OV} (h : BI c t O) {p : Int} (hp : onodeB O p = true) : BI c t (freshO (raiseO O p)) := by
  refine ⟨OOK.fresh (h.ok.raise p), ?_, ?_, ?_, rfl, rfl, ?_, ?_, ?_⟩
  · show (raiseO O p).cfg = c; unfold raiseO; split <;> exact h.cfg
  · show (raiseO O p).V.self = 0
    unfold raiseO; split
    · show (raiseV O.V O.D p).self = 0; rw [raiseV_self]; exact h.me
    · exact h.me
  · show ∀ j : Nat, 0 ≤ (raiseO O p).heard.getD j 0 ∧ (raiseO O p).heard.getD j 0 ≤ 1
    unfold raiseO; split
    · exact hh_set (by decide) h.hh _ ⟨Int.le_refl _, by decide⟩
    · exact h.hh
  · show (raiseO O p).ticks = t; unfold raiseO; split <;> exact h.tk
  · have e : (raiseO O p).since = O.since ∧ (raiseO O p).asked = O.asked := by unfold raiseO; split <;> exact ⟨rfl, rfl⟩
    show 0 ≤ (raiseO O p).since ∧ (raiseO O p).since ≤ 4 ∧ ((raiseO O p).asked ≠ -1 → (raiseO O p).since ≤ 3)
    rw [e.1, e.2]; exact h.si
  · show ∀ x ∈ (raiseO O p).V.a, _
    unfold raiseO
    by_cases hr : raiseOk O.V p = true
    · rw [if_pos hr]
      show ∀ x ∈ (raiseV O.V O.D p).a, _
      unfold raiseV
      rw [if_pos hr]
      intro x hx
      rcases addL_mem.1 (show x ∈ addL O.D O.V.a O.V.am p from hx) with rfl | ⟨hx, _⟩
      · unfold onodeB thereB at hp
        simp only [Bool.and_eq_true, decide_eq_true_eq] at hp
        rw [h.cfg, h.me] at hp
        exact ⟨hp.1.1, hp.1.2, hp.2⟩
      · exact h.nd x hx
    · rw [if_neg hr]; exact h.nd

/-- A neighbour is heard. -/
theorem heard_mem {O : OV} {p : Int} (h : memB O.V.a p = true) : heardO O p = { O with heard := O.heard.set p.toNat 0 } := by
  unfold heardO
  rw [if_pos h]
  unfold learnO
  have hl : learnOk O.V p = false := by unfold learnOk; rw [h]; simp
  have e1 : learnV O.V O.D p = O.V := by unfold learnV; rw [if_neg (by rw [hl]; decide)]
  have e2 : learnD O.V O.D p = O.D := by unfold learnD; rw [if_neg (by rw [hl]; decide)]
  show ({ O with V := learnV O.V O.D p, D := learnD O.V O.D p, heard := O.heard.set p.toNat 0 } : OV) = _
  rw [e1, e2]
theorem BI.heard {c : List Int} {t : Int} {O : OV} (h : BI c t O) {p : Int} (hp : memB O.V.a p = true) : BI c t (heardO O p) := by
  have ho := h.ok.heard p
  rw [heard_mem hp] at ho ⊢
  exact ⟨ho, h.cfg, h.me, hh_set (by decide) h.hh _ ⟨Int.le_refl _, by decide⟩, h.fl, h.fc, h.tk, h.si, h.nd⟩

/-- Nobody is silent. -/
theorem silent_none {s : Int} (hs : 1 ≤ s) : ∀ (l : List Int) (O : OV), l.Pairwise (· < ·) → (∀ q ∈ l, 0 ≤ q ∧ q < 12) → O.heard.length = 12 → O.cfg.getD 11 0 = s → (∀ q ∈ l, O.heard.getD q.toNat 0 = 0) →
    (∀ j : Nat, 0 ≤ O.heard.getD j 0 ∧ O.heard.getD j 0 ≤ 1) → ∃ H, silentO O l = { O with heard := H } ∧ H.length = 12 ∧ ∀ j : Nat, 0 ≤ H.getD j 0 ∧ H.getD j 0 ≤ 1
  | [], O, _, _, hl, _, _, hb => ⟨O.heard, rfl, hl, hb⟩
  | q :: l, O, hp, hn, hl, hc, hz, hb => by
    have hq := hn q (List.mem_cons_self ..)
    have hz0 := hz q (List.mem_cons_self ..)
    have hlt : q.toNat < O.heard.length := by omega
    have e1 : (countO O q).heard = O.heard.set q.toNat 1 := by show O.heard.set q.toNat (O.heard.getD q.toNat 0 + 1) = _; rw [hz0]; rfl
    have e2 : (countO O q).heard.getD q.toNat 0 = 1 := by rw [e1, getD_set, if_pos ⟨rfl, hlt⟩]
    have es : stepS O q = countO O q := by unfold stepS; rw [e2, hc, if_neg (by omega)]
    have ec : countO O q = { O with heard := O.heard.set q.toNat 1 } := by unfold countO; rw [hz0]; rfl
    obtain ⟨H, h1, h2, h3⟩ := silent_none hs l { O with heard := O.heard.set q.toNat 1 } (List.pairwise_cons.1 hp).2 (fun x hx => hn x (List.mem_cons_of_mem _ hx)) (by show (O.heard.set _ _).length = 12; rw [List.length_set]; exact hl) hc
      (fun x hx => by
        show (O.heard.set q.toNat 1).getD x.toNat 0 = 0
        have hlx := (List.pairwise_cons.1 hp).1 x hx
        rw [getD_set, if_neg (by omega)]
        exact hz x (List.mem_cons_of_mem _ hx))
      (hh_set (by decide) hb _ ⟨by decide, Int.le_refl _⟩)
    refine ⟨H, ?_, h2, h3⟩
    show silentO (stepS O q) l = _
    rw [es, ec, h1]

def okLet (A : List Int) (x : LetV) : Prop := (x.m.kind = 9 → x.to ∈ A) ∧ (x.m.kind = 7 → x.to ∈ A ∧ x.m.peer = 0)
def cntL (k : Int) (L : List LetV) : Nat := L.countP fun x => x.m.kind == k
theorem cnt_append (k : Int) (L M : List LetV) : cntL k (L ++ M) = cntL k L + cntL k M := List.countP_append
theorem beats_ok (A l : List Int) (h : ∀ q ∈ l, q ∈ A) : (∀ x ∈ beatsL l, okLet A x) ∧ cntL 9 (beatsL l) = l.length ∧ cntL 7 (beatsL l) = 0 := by
  refine ⟨?_, ?_, ?_⟩
  · intro x hx
    obtain ⟨q, hq, rfl⟩ := List.mem_map.1 hx
    exact ⟨fun _ => h q hq, fun e => absurd (show (9 : Int) = 7 from e) (by decide)⟩
  · unfold cntL beatsL
    rw [List.countP_map, List.countP_eq_length]; intro q _; rfl
  · unfold cntL beatsL
    rw [List.countP_map, List.countP_eq_zero]; intro q _; show ¬ (((9 : Int) == 7) = true); decide

theorem drawV_lt (l : List Int) {n : Nat} (h : 0 < n) : (drawV l n).toNat < n := by
  have := drawV_range (l := l) (n := n) (by omega)
  omega
theorem pick_mem {l zs : List Int} (h : zs ≠ []) : pickV l zs ∈ zs := by
  unfold pickV
  have hl : 0 < zs.length := List.length_pos_iff.2 h
  have := drawV_lt l hl
  rw [List.getD_eq_getElem?_getD, List.getElem?_eq_getElem this]
  exact List.getElem_mem this

/-- What the asking leaves. -/
theorem ask_facts (O : OV) (hs : 0 ≤ O.since ∧ O.since ≤ 4 ∧ (O.asked ≠ -1 → O.since ≤ 3)) :
    (∃ L, (askO O).L = O.L ++ L ∧ L.length ≤ 1 ∧ ∀ x ∈ L, x.m.kind = 3) ∧ (0 ≤ (askO O).since ∧ (askO O).since ≤ 4 ∧ ((askO O).asked ≠ -1 → (askO O).since ≤ 3)) := by
  unfold askO
  split
  · rename_i h
    exact ⟨⟨[], by simp, by simp, by simp⟩, by show 0 ≤ O.since + 1; omega, by show O.since + 1 ≤ 4; omega, fun _ => by show O.since + 1 ≤ 3; omega⟩
  · rename_i h
    have e : (askO1 O).L = O.L ∧ 0 ≤ (askO1 O).since ∧ (askO1 O).since ≤ 4 ∧ (askO1 O).asked = -1 := by
      unfold askO1; split
      · rename_i g; exact ⟨rfl, hs.1, hs.2.1, g⟩
      · rename_i g; exact ⟨rfl, by show 0 ≤ O.since + 1; omega, by show O.since + 1 ≤ 4; have := hs.2.2 g; omega, rfl⟩
    obtain ⟨e1, e2, e3, e4⟩ := e
    unfold askO2
    split
    · exact ⟨⟨[], by simp [e1], by simp, by simp⟩, e2, e3, fun g => absurd e4 g⟩
    · refine ⟨⟨[⟨pickV (askO1 O).D (wantedL (askO1 O)), askM (askO1 O)⟩], by show (askO1 O).L ++ _ = _; rw [e1], by simp, ?_⟩, by show (0 : Int) ≤ 0; decide, by show (0 : Int) ≤ 4; decide, fun _ => by show (0 : Int) ≤ 3; decide⟩
      intro x hx
      rw [List.mem_singleton] at hx
      subst hx; rfl

theorem kind3 {L : List LetV} (h : ∀ x ∈ L, x.m.kind = 3) (A : List Int) : (∀ x ∈ L, okLet A x) ∧ cntL 9 L = 0 ∧ cntL 7 L = 0 := by
  refine ⟨fun x hx => ?_, ?_, ?_⟩
  · have := h x hx; exact ⟨fun g => by rw [this] at g; exact absurd g (by decide), fun g => by rw [this] at g; exact absurd g (by decide)⟩
  · unfold cntL; rw [List.countP_eq_zero]; intro x hx; rw [h x hx]; decide
  · unfold cntL; rw [List.countP_eq_zero]; intro x hx; rw [h x hx]; decide

theorem beat_law {c : List Int} {t : Int} {P : OV} (h : BI c t P) (hz : ∀ q ∈ P.V.a, P.heard.getD q.toNat 0 = 0) (pa : Option Addr) (pn pc : Nat) :
    (tickR P pa pn pc).C = [] ∧ (∀ x ∈ (tickR P pa pn pc).L, okLet P.V.a x) ∧ cntL 9 (tickR P pa pn pc).L = (if (t + 1) % c.getD 10 0 = 0 then P.V.a.length else 0) ∧
    cntL 7 (tickR P pa pn pc).L = (if (t + 1) % c.getD 10 0 = 0 then min P.V.a.length 1 else 0) ∧ BI c (t + 1) (freshO (tickR P pa pn pc)) ∧ (tickR P pa pn pc).L.length ≤ 100 := by
  have hcl := h.ok.cl
  have hs : 1 ≤ P.cfg.getD 11 0 := by
    have a := fine_lo (rightB_iff.1 h.ok.r 11 (by decide))
    have b := fine_lo (rightB_iff.1 h.ok.r 10 (by decide))
    simp only [leastF] at a b
    simp at a b
    simp; omega
  obtain ⟨H, e1, e2, e3⟩ := silent_none hs P.V.a { P with ticks := P.ticks + 1 } h.ok.v.sa (fun q hq => nodeB_iff.1 (h.ok.v.na q hq).1) h.ok.hl rfl hz h.hh
  obtain ⟨⟨L, a1, a2, a3⟩, a4⟩ := ask_facts (silentO { P with ticks := P.ticks + 1 } P.V.a) (by rw [e1]; exact h.si)
  obtain ⟨k1, k2, k3, k4, k5, _⟩ := ask_keep (silentO { P with ticks := P.ticks + 1 } P.V.a)
  have eT : tick1 P = askO (silentO { P with ticks := P.ticks + 1 } P.V.a) := rfl
  obtain ⟨T, hT⟩ : ∃ T, askO (silentO { P with ticks := P.ticks + 1 } P.V.a) = T := ⟨_, rfl⟩
  rw [hT] at a1 a4 k1 k2 k3 k4 k5 eT
  rw [e1] at a1 k1 k2 k3 k4 k5
  have f1 : T.L = L := by rw [a1]; show P.L ++ L = L; rw [h.fl]; rfl
  have f2 : T.C = [] := k5.trans h.fc
  have f3 : T.V = P.V := k3
  have f4 : T.cfg = c := k2.trans h.cfg
  have f5 : T.ticks = t + 1 := k1.trans (by show P.ticks + 1 = t + 1; rw [h.tk])
  have f6 : T.heard = H := k4
  have hna : P.V.a.length ≤ 11 := by have := h.ok.v.la; have := h.ok.v.am; omega
  obtain ⟨b1, b2, b3⟩ := kind3 a3 P.V.a
  have hok : OOK T := ⟨by rw [f3]; exact h.ok.v, by rw [f4, ← h.cfg]; exact h.ok.cl, by rw [f6]; exact e2, by rw [f4, ← h.cfg]; exact h.ok.r⟩
  have hBI : ∀ U : OV, U.V = T.V → U.cfg = T.cfg → U.heard = T.heard → U.ticks = T.ticks → U.since = T.since → U.asked = T.asked → BI c (t + 1) (freshO U) := fun U u1 u2 u3 u4 u5 u6 =>
    ⟨⟨by show VOK U.V; rw [u1]; exact hok.v, by show U.cfg.length = 20; rw [u2]; exact hok.cl, by show U.heard.length = 12; rw [u3]; exact hok.hl, by show rightB U.cfg = true; rw [u2]; exact hok.r⟩,
      by show U.cfg = c; rw [u2, f4], by show U.V.self = 0; rw [u1, f3, h.me], by show ∀ j : Nat, 0 ≤ U.heard.getD j 0 ∧ U.heard.getD j 0 ≤ 1; rw [u3, f6]; exact e3, rfl, rfl, by show U.ticks = t + 1; rw [u4, f5],
      by show 0 ≤ U.since ∧ U.since ≤ 4 ∧ (U.asked ≠ -1 → U.since ≤ 3); rw [u5, u6]; exact a4,
      by show ∀ x ∈ U.V.a, _; rw [u1, f3]; exact h.nd⟩
  unfold tickR
  rw [h.tk, h.cfg, eT]
  by_cases hb : (t + 1) % c.getD 10 0 = 0
  · simp only [if_pos hb]
    unfold beatO
    by_cases ha : T.V.a = []
    · rw [if_pos ha]
      rw [f3] at ha
      rw [ha, f1]
      rw [ha] at b1
      exact ⟨f2, b1, by rw [b2]; rfl, by rw [b3]; rfl, hBI T rfl rfl rfl rfl rfl rfl, by omega⟩
    · rw [if_neg ha]
      rw [f3] at ha
      obtain ⟨d1, d2, d3⟩ := beats_ok P.V.a P.V.a (fun _ hq => hq)
      have hmin : min P.V.a.length 1 = 1 := by have := List.length_pos_iff.2 ha; omega
      obtain ⟨X, hX⟩ : ∃ X : LetV, X = ⟨pickV T.D T.V.a, shuffleM T pa pn pc (someF (T.cfg.getD 9 0).toNat (drawL T.D T.V.a.length) T.V.p).2.1⟩ := ⟨_, rfl⟩
      have x1 : X.to ∈ P.V.a := by rw [hX]; show pickV T.D T.V.a ∈ P.V.a; rw [f3]; exact pick_mem ha
      have x2 : X.m.kind = 7 := by rw [hX]; rfl
      have x3 : X.m.peer = 0 := by rw [hX]; show T.V.self = 0; rw [f3, h.me]
      rw [← hX]
      refine ⟨f2, ?_, ?_, ?_, hBI _ rfl rfl rfl rfl rfl rfl, ?_⟩
      · show ∀ x ∈ T.L ++ beatsL T.V.a ++ [X], okLet P.V.a x
        rw [f1, f3]
        intro x hx
        rcases List.mem_append.1 hx with hx | hx
        · rcases List.mem_append.1 hx with hx | hx
          · exact b1 x hx
          · exact d1 x hx
        · rw [List.mem_singleton] at hx
          subst hx
          exact ⟨fun g => by rw [x2] at g; exact absurd g (by decide), fun _ => ⟨x1, x3⟩⟩
      · show cntL 9 (T.L ++ beatsL T.V.a ++ [X]) = _
        have : cntL 9 [X] = 0 := by unfold cntL; rw [List.countP_eq_zero]; intro x hx; rw [List.mem_singleton] at hx; rw [hx, x2]; decide
        rw [f1, f3, cnt_append, cnt_append, b2, d2, this]
        omega
      · show cntL 7 (T.L ++ beatsL T.V.a ++ [X]) = _
        have : cntL 7 [X] = 1 := by unfold cntL; rw [List.countP_cons, x2]; rfl
        rw [f1, f3, cnt_append, cnt_append, b3, d3, hmin, this]
      · show (T.L ++ beatsL T.V.a ++ [X]).length ≤ 100
        rw [f1, f3]; simp [beatsL]; omega
  · simp only [if_neg hb]
    rw [f1]
    exact ⟨f2, b1, b2, b3, hBI T rfl rfl rfl rfl rfl rfl, by omega⟩

end Go.Proofs.YtbpdchaeakihkaaGreat
