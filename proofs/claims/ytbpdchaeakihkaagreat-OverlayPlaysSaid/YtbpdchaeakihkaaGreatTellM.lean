/- OverlayTells: how many letters an act sends; what the changes tell; the table of who was told. -/
import Derived.Test.YtbpdchaeakihkaaGreatTellL
import Derived.Test.YtbpdchaeakihkaaGreatRefA
namespace Go.Proofs.YtbpdchaeakihkaaGreat
open Go.RowKit Go.Qd

/-! How many letters an act sends. -/
theorem lower_L (O : OV) (p : Int) : (lowerO O p).L = O.L := by unfold lowerO; split <;> rfl
theorem heard_L (O : OV) (p : Int) : (heardO O p).L = O.L := by unfold heardO learnO; split <;> rfl
theorem learnAll_L (l : List Int) : ∀ O : OV, (learnAllO O l).L = O.L := by
  induction l with
  | nil => intro O; rfl
  | cons x l ih => intro O; exact (ih (learnO O x)).trans rfl
theorem stepS_L (O : OV) (p : Int) : (stepS O p).L = O.L := by unfold stepS; split; exact lower_L _ _; rfl
theorem silent_L (l : List Int) : ∀ O : OV, (silentO O l).L = O.L := by
  induction l with
  | nil => intro O; rfl
  | cons x l ih => intro O; exact (ih (stepS O x)).trans (stepS_L O x)
theorem ask_len (O : OV) : (askO O).L.length ≤ O.L.length + 1 := by
  have h1 : (askO1 O).L = O.L := by unfold askO1; split <;> rfl
  unfold askO
  split
  · exact Nat.le_succ _
  · unfold askO2
    split
    · rw [h1]; exact Nat.le_succ _
    · show ((askO1 O).L ++ [_]).length ≤ _
      rw [List.length_append, h1]; exact Nat.le_refl _
theorem wok_a {O : OV} (w : WOK O) : O.V.a.length ≤ 11 := by have := w.ok.v.la; have := w.ok.v.am; omega
theorem take1_len {O : OV} (w : WOK O) {p : Int} (hp : onodeB O p = true) : (take1O O p).L.length ≤ O.L.length + 12 := by
  have g := (path_take1 w hp).wok w
  have h11 : (joinedO O p).V.a.length ≤ 11 := wok_a (O := take1O O p) g
  show ((joinedO O p).L ++ fwdL (joinedO O p) p (othersL (joinedO O p) [p])).length ≤ _
  rw [List.length_append]
  have h1 : (joinedO O p).L.length ≤ O.L.length + 1 := by
    have := raiseO_len (heardO O p) p
    rw [heard_L] at this
    exact this
  have h2 : (fwdL (joinedO O p) p (othersL (joinedO O p) [p])).length ≤ 11 := by
    unfold fwdL othersL
    rw [List.length_map]
    exact Nat.le_trans (List.length_filter_le _ _) h11
  omega
theorem snoc_len (l : List LetV) (x : LetV) : (l ++ [x]).length = l.length + 1 := by rw [List.length_append]; rfl
theorem takeO_len {O : OV} (w : WOK O) {p : Int} {m : MsgV} (hp : onodeB O p = true) {k : Nat} (h1 : 1 ≤ k) (h9 : k ≤ 9) (pa : Option Addr) (pn pc : Nat) : (takeO O p m k pa pn pc).L.length ≤ O.L.length + 12 := by
  have hh := heard_L O p
  obtain ⟨H, hH⟩ : ∃ H, heardO O p = H := ⟨_, rfl⟩
  have hcase : k = 1 ∨ k = 2 ∨ k = 3 ∨ k = 4 ∨ k = 5 ∨ k = 6 ∨ k = 7 ∨ k = 8 ∨ k = 9 := by omega
  rcases hcase with rfl | rfl | rfl | rfl | rfl | rfl | rfl | rfl | rfl
  · exact take1_len w hp
  · show (forwardO (heardO O p) p m pa pc).L.length ≤ _
    rw [hH] at hh ⊢
    unfold forwardO
    split
    · rw [hh]; omega
    · split
      · split
        · rw [hh]; omega
        · show ((raiseO H m.peer).L ++ [_]).length ≤ _
          have := raiseO_len H m.peer
          rw [snoc_len]; rw [hh] at this; omega
      · unfold passO
        split
        · show ((learnO H m.peer).L ++ [_]).length ≤ _
          rw [snoc_len]; show H.L.length + 1 ≤ _; rw [hh]; omega
        · show (H.L ++ [_]).length ≤ _
          rw [snoc_len, hh]; omega
  · show (neighborO (heardO O p) p m.high).L.length ≤ _
    rw [hH] at hh ⊢
    unfold neighborO
    split
    · show (H.L ++ [_]).length ≤ _
      rw [snoc_len, hh]; omega
    · show ((raiseO H p).L ++ [_]).length ≤ _
      have := raiseO_len H p
      rw [snoc_len]; rw [hh] at this; omega
  · show (answerO (heardO O p) p true).L.length ≤ _
    rw [hH] at hh ⊢
    unfold answerO
    split
    · rw [if_pos rfl]
      have := raiseO_len { H with asked := -1 } p
      have e : ({ H with asked := -1 } : OV).L.length = O.L.length := by show H.L.length = _; rw [hh]
      omega
    · rw [hh]; omega
  · show (answerO (heardO O p) p false).L.length ≤ _
    rw [hH] at hh ⊢
    unfold answerO
    split
    · rw [if_neg Bool.noConfusion]; show H.L.length ≤ _; rw [hh]; omega
    · rw [hh]; omega
  · show (lowerO (heardO O p) p).L.length ≤ _
    rw [lower_L, hh]; omega
  · show (shuffleO (heardO O p) p m pa pn pc).L.length ≤ _
    rw [hH] at hh ⊢
    unfold shuffleO
    split
    · rw [hh]; omega
    · split
      · show (H.L ++ [_]).length ≤ _
        rw [snoc_len, hh]; omega
      · unfold swapO
        rw [learnAll_L]
        show (H.L ++ [_]).length ≤ _
        rw [snoc_len, hh]; omega
  · show (learnAllO (heardO O p) m.ps).L.length ≤ _
    rw [learnAll_L, hh]; omega
  · show (heardO O p).L.length ≤ _
    rw [hh]; omega
theorem step_len {O X : OV} {x : OAct} {e : Int} (w : WOK O) {k : Int} (n : NumOK O k) (h : StepR O x X e) : X.L.length ≤ O.L.length + 20 := by
  cases h with
  | joinNo _ _ => omega
  | join _ _ =>
    show (joinL O x.peer).length ≤ _
    unfold joinL
    have := raiseO_len O x.peer
    rw [snoc_len]; omega
  | leave _ =>
    have := (leaveAll_ok O.V.a w.ok).2.1
    have h11 := wok_a w
    show (leaveAllO O O.V.a).L.length ≤ _
    omega
  | heardNo _ _ => omega
  | heard _ _ => rw [heard_L]; omega
  | take _ ma mq ea eq X e h =>
    cases h with
    | no _ => omega
    | bad _ _ => omega
    | yes hn k h1 h9 _ _ pa pn pc => have := takeO_len (m := (x.m.withM ma x.m.mn mq).withE ea x.m.en eq) w hn h1 h9 pa pn pc; omega
  | tick _ pa pn pc =>
    have g1 := (Path.one (Prim.ticks (O := O))).trans (path_silent O.V.a { O with ticks := O.ticks + 1 })
    have g2 := g1.thenP (path_ask (g1.wok w) (g1.num n))
    have h11 : (tick1 O).V.a.length ≤ 11 := wok_a (g2.wok w)
    have h1 : (tick1 O).L.length ≤ O.L.length + 1 := by
      have := ask_len (silentO { O with ticks := O.ticks + 1 } O.V.a)
      rw [silent_L] at this
      exact this
    unfold tickR
    split
    · unfold beatO
      split
      · omega
      · show ((tick1 O).L ++ beatsL (tick1 O).V.a ++ [_]).length ≤ _
        rw [snoc_len, List.length_append]
        have : (beatsL (tick1 O).V.a).length = (tick1 O).V.a.length := by unfold beatsL; rw [List.length_map]
        omega
    · omega

/-! What an act's changes and letters tell. -/
theorem LX.told {c : List Int} {me : Int} {k : Nat} {O X : OV} {x : OAct} {e : Int} (h : LX c me k O) (hs : 0 ≤ me ∧ me < c.getD 0 0) (hl : x.m.ps.length = x.m.pn) (hst : StepR O x X e) :
    TI (memB O.V.a) X ∧ LetsOK X ∧ X.L.length ≤ 20 ∧ X.cfg = c ∧ X.V.self = me := by
  have hlen := step_len h.li.wk h.li.nm hst
  rw [h.li.ll] at hlen
  have t0 : TI (memB O.V.a) O := TI.start h.li.cc (fun _ => rfl)
  have l0 : LetsOK O := fun y hy => by rw [h.li.ll] at hy; cases hy
  rcases step_path h.li.wk h.li.nm (h.li.self12 hs) hl hst with ⟨_, rfl, _⟩ | ⟨_, j, hj, hp⟩
  · exact ⟨t0, l0, hlen, h.li.cf, h.li.sl⟩
  · exact ⟨hp.tell h.li.wk t0, hp.lets h.li.wk l0, hlen, hp.same.c.trans h.li.cf, hp.same.s.trans h.li.sl⟩

/-! The table of who was told. -/
def tC (f : Int → Bool) : List Value := (List.range 12).map fun p : Nat => Value.bool (f (p : Int))
theorem tC_len (f : Int → Bool) : (tC f).length = 12 := by simp [tC]
theorem tC_get {f : Int → Bool} {k : Nat} (h : k < 12) : (tC f)[k]? = some (.bool (f (k : Int))) := by simp [tC, h]
theorem tC_one (f : Int → Bool) : ∀ u ∈ tC f, u.oneCell' = true := by
  intro u hu
  obtain ⟨p, _, rfl⟩ := List.mem_map.1 hu
  rfl
theorem tC_bits {f : Int → Bool} {l : List Int} (h : ∀ q, f q = memB l q) : tC f = bits l := by
  unfold tC bits
  exact List.map_congr_left fun p _ => by rw [h]
theorem tC_set {f : Int → Bool} {k : Nat} (b : Bool) : (tC f).set k (.bool b) = tC (fun q => if q = (k : Int) then b else f q) := by
  apply List.ext_getElem?
  intro i
  rw [List.getElem?_set]
  by_cases hi : i < 12
  · rw [tC_get hi, tC_get hi]
    by_cases e : k = i
    · subst e
      rw [if_pos rfl, tC_len, if_pos hi, if_pos rfl]
    · rw [if_neg e, if_neg (by omega)]
  · rw [List.getElem?_eq_none (l := tC _) (by rw [tC_len]; omega), List.getElem?_eq_none (l := tC _) (by rw [tC_len]; omega)]
    by_cases e : k = i
    · rw [if_pos e, tC_len, if_neg (by omega)]
    · rw [if_neg e]

/-! A letter's peers in memory. -/
theorem own_at {W w : World} {R : List HP} {L : List LetV} (s : St W w (sepL (L.map LetV.own) :: R)) {i : Nat} (h : i < L.length) : RdS w 1 L[i].m.pa L[i].m.pn L[i].m.pc (ivs L[i].m.ps) := by
  have s1 : St W w ((L.map LetV.own) ++ R) := (St.flat _).1 s
  have e : (L.map LetV.own) ++ R = (L.take i).map LetV.own ++ (L[i].own :: ((L.drop (i + 1)).map LetV.own ++ R)) := by
    have g : L = L.take i ++ L[i] :: L.drop (i + 1) := by rw [List.getElem_cons_drop]; exact (List.take_append_drop i L).symm
    conv => lhs; rw [g]
    rw [List.map_append, List.map_cons, List.append_assoc]; rfl
  rw [e] at s1
  have s2 := (St.flat _).2 s1
  exact OwnS.rd (St.pick 1 s2)
theorem bare_ok {m : MsgV} (h : MsgOK m) : MsgOK m.bare2 := ⟨h.k, ⟨h.z.1, h.z.2.1, h.z.2.2.1, h.z.2.2.2.1, h.z.2.2.2.2.1, rfl, rfl⟩, h.p, h.h, h.l, h.n, h.f1, h.f2, h.f3⟩
end Go.Proofs.YtbpdchaeakihkaaGreat
