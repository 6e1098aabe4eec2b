/- OverlaySilent: the plain law. -/
import Derived.Test.YtbpdchaeakihkaaGreatBeatL
import Derived.Test.YtbpdchaeakihkaaGreatTakeG
namespace Go.Proofs.YtbpdchaeakihkaaGreat
open Go.RowKit Go.Qd

/-- After k ticks in which nothing was heard. -/
structure SI (c : List Int) (peer : Int) (k : Int) (O : OV) : Prop where
  ok : OOK O
  cfg : O.cfg = c
  me : O.V.self = 0
  va : O.V.a = [peer]
  vp : O.V.p = []
  am : O.V.am = c.getD 5 0
  pm : O.V.pm = c.getD 6 0
  hp : O.heard.getD peer.toNat 0 = k
  hh : ∀ j : Nat, 0 ≤ O.heard.getD j 0 ∧ O.heard.getD j 0 ≤ k
  fl : O.L = []
  fc : O.C = []
  tk : O.ticks = k
  si : 0 ≤ O.since ∧ O.since ≤ 4
  qa : O.asked = -1

theorem addL_one {D : List Int} {m p : Int} (hm : 1 ≤ m) : addL D [] m p = [p] ∧ addG D [] m = -1 := by
  have : ¬ m ≤ (([] : List Int).length : Int) := by show ¬ m ≤ 0; omega
  unfold addL addG
  rw [if_neg this, if_neg this]
  exact ⟨rfl, rfl⟩
theorem dropL_one (p : Int) : dropL [p] p = [] := by simp [dropL]
theorem memB_one (p : Int) : memB [p] p = true := memB_yes (List.mem_singleton.2 rfl)
theorem memB_nil (p : Int) : memB [] p = false := memB_no (by simp)
theorem pick_one (D : List Int) (p : Int) : pickV D [p] = p := by have := pickV_mem (D := D) (l := [p]) (by simp); simpa using this

/-- A node is raised where nobody is. -/
theorem raise_first {O : OV} {p : Int} (ha : O.V.a = []) (hs : nodeB p = true) (hn : p ≠ O.V.self) (hm : 1 ≤ O.V.am) :
    raiseO O p = { O with V := { O.V with a := [p], p := dropL O.V.p p }, D := raiseD O.V O.D p, L := O.L, C := O.C ++ [(p, true)], heard := O.heard.set p.toNat 0 } := by
  have hr : raiseOk O.V p = true := by unfold raiseOk; rw [ha, memB_nil, hs, decide_eq_true hn]; rfl
  have hg : raiseG O.V O.D = -1 := by unfold raiseG; rw [ha]; exact (addL_one (p := p) hm).2
  have hv : raiseV O.V O.D p = { O.V with a := [p], p := dropL O.V.p p } := by
    unfold raiseV; rw [if_pos hr, hg, if_neg (by decide)]; unfold raiseA; rw [ha, (addL_one hm).1]
  unfold raiseO
  rw [if_pos hr, hv, hg, if_neg (by decide), if_neg (by decide)]

theorem SI.start {c : List Int} (hc : c.length = 20) (hr : rightB c = true) {peer : Int} (hp : 1 ≤ peer ∧ peer < c.getD 0 0) : SI c peer 0 (freshO (raiseO (newO c 0 []) peer)) ∧ onodeB (newO c 0 []) peer = true := by
  obtain ⟨h5, h6, h0⟩ := cfg_views hc hr
  have hno : nodeB peer = true := nodeB_iff.2 ⟨by omega, by omega⟩
  have e := raise_first (O := newO c 0 []) (p := peer) rfl hno (by show peer ≠ 0; omega) h5.1
  have ok := OOK.fresh ((new_ok hc hr (self := 0) (D := []) ⟨Int.le_refl _, by omega⟩).raise peer)
  have hz : ∀ j : Nat, (List.replicate 12 (0 : Int)).getD j 0 = 0 := fun j => by rw [List.getD_eq_getElem?_getD, List.getElem?_replicate]; split <;> rfl
  have hz2 : ∀ j : Nat, ((List.replicate 12 (0 : Int)).set peer.toNat 0).getD j 0 = 0 := fun j => by rw [getD_set]; split; rfl; exact hz j
  rw [e] at ok ⊢
  refine ⟨⟨ok, rfl, rfl, rfl, rfl, rfl, rfl, hz2 _, fun j => ?_, rfl, rfl, rfl, ⟨Int.le_refl _, (show (0 : Int) ≤ 4 by decide)⟩, rfl⟩, BI_node rfl rfl ⟨by omega, hp.2, by omega⟩⟩
  show 0 ≤ ((List.replicate 12 (0 : Int)).set peer.toNat 0).getD j 0 ∧ ((List.replicate 12 (0 : Int)).set peer.toNat 0).getD j 0 ≤ 0
  rw [hz2]; exact ⟨Int.le_refl _, Int.le_refl _⟩

theorem ask_nobody {O : OV} (ha : O.asked = -1) (hw : wantedL O = []) : askO O = O := by
  unfold askO
  rw [if_neg (fun h => h.1 ha)]
  have e1 : askO1 O = O := by unfold askO1; rw [if_pos ha]
  rw [e1]
  unfold askO2
  rw [if_pos hw]

theorem SI.tick {c : List Int} {peer k : Int} {O : OV} (h : SI c peer k O) (hk : 0 ≤ k) (hks : k < c.getD 11 0) (pa : Option Addr) (pn pc : Nat) : SI c peer (k + 1) (freshO (tickR O pa pn pc)) := by
  have hpn := nodeB_iff.1 (h.ok.v.na peer (by rw [h.va]; exact List.mem_singleton.2 rfl)).1
  have hlt : peer.toNat < O.heard.length := by rw [h.ok.hl]; omega
  have hb : ∀ j : Nat, 0 ≤ (O.heard.set peer.toNat (k + 1)).getD j 0 ∧ (O.heard.set peer.toNat (k + 1)).getD j 0 ≤ k + 1 := hh_set (by omega) (fun j => ⟨(h.hh j).1, by have := (h.hh j).2; omega⟩) _ ⟨by omega, Int.le_refl _⟩
  have hat : (O.heard.set peer.toNat (k + 1)).getD peer.toNat 0 = k + 1 := by rw [getD_set, if_pos ⟨rfl, hlt⟩]
  have ec : countO { O with ticks := O.ticks + 1 } peer = { O with ticks := O.ticks + 1, heard := O.heard.set peer.toNat (k + 1) } := by unfold countO; rw [show (({ O with ticks := O.ticks + 1 } : OV).heard.getD peer.toNat 0) = k from h.hp]
  have es : silentO { O with ticks := O.ticks + 1 } O.V.a = { O with ticks := O.ticks + 1, heard := O.heard.set peer.toNat (k + 1) } := by
    rw [h.va]
    show stepS { O with ticks := O.ticks + 1 } peer = _
    unfold stepS
    rw [ec]
    rw [if_neg]
    show ¬ O.cfg.getD 11 0 < (O.heard.set peer.toNat (k + 1)).getD peer.toNat 0
    rw [hat, h.cfg]; omega
  have ea : tick1 O = { O with ticks := O.ticks + 1, heard := O.heard.set peer.toNat (k + 1) } := by
    unfold tick1
    rw [es]
    refine ask_nobody h.qa ?_
    unfold wantedL
    split
    · rfl
    · exact h.vp
  have hT : SI c peer (k + 1) (freshO (tick1 O)) := by
    rw [ea]
    refine ⟨⟨h.ok.v, h.ok.cl, by show (O.heard.set _ _).length = 12; rw [List.length_set]; exact h.ok.hl, h.ok.r⟩, h.cfg, h.me, h.va, h.vp, h.am, h.pm, hat, hb, rfl, rfl, ?_, h.si, h.qa⟩
    show O.ticks + 1 = k + 1
    rw [h.tk]
  unfold tickR
  split
  · unfold beatO
    split
    · exact hT
    · exact ⟨⟨hT.ok.v, hT.ok.cl, hT.ok.hl, hT.ok.r⟩, hT.cfg, hT.me, hT.va, hT.vp, hT.am, hT.pm, hT.hp, hT.hh, rfl, rfl, hT.tk, hT.si, hT.qa⟩
  · exact hT

/-- The last tick: the neighbour is none any more, and is asked. -/
structure SL (c : List Int) (peer : Int) (O : OV) : Prop where
  ok : OOK O
  cfg : O.cfg = c
  me : O.V.self = 0
  va : O.V.a = []
  vp : O.V.p = [peer]
  am : O.V.am = c.getD 5 0
  qa : O.asked = peer
  let1 : ∃ M : MsgV, O.L = [⟨peer, M⟩] ∧ M.kind = 3 ∧ M.high = true

theorem SI.last {c : List Int} (hc : c.length = 20) (hr : rightB c = true) {peer k : Int} {O : OV} (h : SI c peer k O) (hk : k = c.getD 11 0) (pa : Option Addr) (pn pc : Nat) : SL c peer (tickR O pa pn pc) := by
  obtain ⟨h5, h6, h0⟩ := cfg_views hc hr
  have hpn := nodeB_iff.1 (h.ok.v.na peer (by rw [h.va]; exact List.mem_singleton.2 rfl)).1
  have hlt : peer.toNat < O.heard.length := by rw [h.ok.hl]; omega
  have hat : (O.heard.set peer.toNat (k + 1)).getD peer.toNat 0 = k + 1 := by rw [getD_set, if_pos ⟨rfl, hlt⟩]
  have ec : countO { O with ticks := O.ticks + 1 } peer = { O with ticks := O.ticks + 1, heard := O.heard.set peer.toNat (k + 1) } := by unfold countO; rw [show (({ O with ticks := O.ticks + 1 } : OV).heard.getD peer.toNat 0) = k from h.hp]
  have hm : memB O.V.a peer = true := by rw [h.va]; exact memB_one _
  have el : lowerV O.V O.D peer = { O.V with a := [], p := [peer] } := by
    unfold lowerV; rw [if_pos hm, h.va, h.vp, dropL_one, (addL_one (by rw [h.pm]; exact h6.1)).1]
  have es : silentO { O with ticks := O.ticks + 1 } O.V.a = { O with ticks := O.ticks + 1, heard := O.heard.set peer.toNat (k + 1), V := { O.V with a := [], p := [peer] }, D := lowerD O.V O.D peer, C := O.C ++ [(peer, false)] } := by
    have e1 : silentO { O with ticks := O.ticks + 1 } O.V.a = stepS { O with ticks := O.ticks + 1 } peer := by rw [h.va]; rfl
    rw [e1]
    unfold stepS
    rw [ec, if_pos]
    · unfold lowerO
      rw [if_pos (show memB O.V.a peer = true from hm)]
      show ({ O with ticks := O.ticks + 1, heard := O.heard.set peer.toNat (k + 1), V := lowerV O.V O.D peer, D := lowerD O.V O.D peer, C := O.C ++ [(peer, false)] } : OV) = _
      rw [el]
    · show O.cfg.getD 11 0 < (O.heard.set peer.toNat (k + 1)).getD peer.toNat 0
      rw [hat, h.cfg]; omega
  obtain ⟨Q, hQ⟩ : ∃ Q, silentO { O with ticks := O.ticks + 1 } O.V.a = Q := ⟨_, rfl⟩
  have q1 : Q.V.a = [] := by rw [← hQ, es]
  have q2 : Q.V.p = [peer] := by rw [← hQ, es]
  have q3 : Q.V.am = c.getD 5 0 := by rw [← hQ, es]; exact h.am
  have q4 : Q.V.self = 0 := by rw [← hQ, es]; exact h.me
  have q5 : Q.cfg = c := by rw [← hQ, es]; exact h.cfg
  have q6 : Q.asked = -1 := by rw [← hQ, es]; exact h.qa
  have q7 : Q.L = [] := by rw [← hQ, es]; exact h.fl
  have q8 : OOK Q := by rw [← hQ]; exact (SOK.silent (m := k) (k := 0) (O := { O with ticks := O.ticks + 1 }) ⟨⟨h.ok.v, h.ok.cl, h.ok.hl, h.ok.r⟩, h.hh, by rw [show ({ O with ticks := O.ticks + 1 } : OV).C = O.C from rfl, h.fc]; exact Nat.le_refl _, h.fl⟩ O.V.a).ok
  have hw : wantedL Q = [peer] := by unfold wantedL; rw [q1, q3, q2, if_neg]; show ¬ c.getD 5 0 ≤ 0; omega
  have ea : tick1 O = { Q with D := drawL Q.D 1, asked := peer, since := 0, L := [⟨peer, askM Q⟩] } := by
    show askO (silentO { O with ticks := O.ticks + 1 } O.V.a) = _
    rw [hQ]
    unfold askO
    rw [if_neg (fun g => g.1 q6)]
    have e1 : askO1 Q = Q := by unfold askO1; rw [if_pos q6]
    rw [e1]
    unfold askO2
    rw [hw, if_neg (by simp), pick_one, q7]
    rfl
  have et : tickR O pa pn pc = tick1 O := by
    unfold tickR
    split
    · unfold beatO; rw [if_pos]; rw [ea]; exact q1
    · rfl
  rw [et, ea]
  refine ⟨⟨q8.v, q8.cl, q8.hl, q8.r⟩, q5, q4, q1, q2, q3, rfl, askM Q, rfl, rfl, ?_⟩
  show ((Q.V.a.length : Int) == 0) = true
  rw [q1]; rfl

/-- The answer makes it a neighbour again. -/
theorem SL.accept {c : List Int} (hc : c.length = 20) (hr : rightB c = true) {peer : Int} (hp : 1 ≤ peer ∧ peer < c.getD 0 0) {O : OV} (h : SL c peer O) :
    onodeB (freshO O) peer = true ∧ fitsB (freshO O) (kindM 4) 4 = true ∧ (answerO (heardO (freshO O) peer) peer true).V.a = [peer] ∧ (answerO (heardO (freshO O) peer) peer true).C = [(peer, true)] := by
  obtain ⟨h5, h6, h0⟩ := cfg_views hc hr
  have hno : nodeB peer = true := nodeB_iff.2 ⟨by omega, by omega⟩
  have hl : learnOk O.V peer = false := by unfold learnOk; rw [h.vp, memB_one]; simp
  have eh : heardO (freshO O) peer = freshO O := by
    unfold heardO
    rw [if_neg (by show ¬ memB O.V.a peer = true; rw [h.va, memB_nil]; decide)]
    unfold learnO
    have e1 : learnV (freshO O).V (freshO O).D peer = O.V := by unfold learnV; rw [if_neg (by show ¬ learnOk O.V peer = true; rw [hl]; decide)]; rfl
    have e2 : learnD (freshO O).V (freshO O).D peer = O.D := by unfold learnD; rw [if_neg (by show ¬ learnOk O.V peer = true; rw [hl]; decide)]; rfl
    rw [e1, e2]; rfl
  refine ⟨BI_node h.cfg h.me ⟨by omega, hp.2, by omega⟩, ?_, ?_, ?_⟩
  · unfold fitsB
    rw [show goodB (kindM 4) 4 = true from by kernel_rfl]
    unfold thereB
    rw [show (freshO O).cfg = c from h.cfg]
    show (true && ((decide ((0 : Int) ≤ 0) && decide ((0 : Int) < c.getD 0 0)) && !(([] : List Int).any _))) = true
    rw [decide_eq_true (show (0 : Int) < c.getD 0 0 by omega)]; rfl
  all_goals
    rw [eh]
    unfold answerO
    rw [if_pos (show (freshO O).asked = peer from h.qa), if_pos rfl, raise_first (O := { freshO O with asked := -1 }) h.va hno (by show peer ≠ O.V.self; rw [h.me]; omega) (by show 1 ≤ O.V.am; rw [h.am]; exact h5.1)]
    try rfl

end Go.Proofs.YtbpdchaeakihkaaGreat
