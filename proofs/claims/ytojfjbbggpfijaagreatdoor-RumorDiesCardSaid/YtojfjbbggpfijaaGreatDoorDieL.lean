/- A rumor between two nodes, in plain Lean: it is told, taken, echoed, and dies. -/
import Derived.Test.YtojfjbbggpfijaaGreatDoorCapL
import Derived.Test.YtojfjbbggpfijaaGreatDoorTicT
namespace Go.Proofs.YtojfjbbggpfijaaGreatDoor
open Go.RowKit Go.Qd RepV

section
variable {c : List Int} {k v : ByteArray}
/-- The rumor. -/
def dieE (k v : ByteArray) : EnV := putE k v 1 0
def dieK (k v : ByteArray) : MkV := (dieE k v).mark
theorem die_chk (h1 : 1 ≤ k.size ∧ k.size ≤ 16) (h2 : v.size ≤ 32) : checkE (dieE k v) = 0 :=
  checkE_of h1 h2 rfl rfl (by show ¬ cmpS 1 0 1 0 < 0; decide) (fun _ => rfl) (fun h => by cases h)
/-- An entry is set down in a replica that has nothing. -/
theorem first_set {r : RepV} (ht : r.tab = []) (hd : r.d = DskV.new) (hroom : 1 ≤ r.room) {e : EnV} (he : checkE e = 0) : r.setW e = 0 ∧ (r.set e).tab = tput [] e.key e ∧ (r.set e).cnt = r.cnt := by
  have w := (EasyD.new.add (checkE_len he).1 (checkE_len he).2 (by decide)).1
  have hr : r.roomB e.key = true := by
    unfold RepV.roomB
    rw [ht]
    simp only [Bool.or_eq_true, decide_eq_true_eq]
    right
    show ((0 : Nat) : Int) < r.room
    omega
  have hW : r.setW e = 0 := by
    unfold RepV.setW
    rw [if_neg (fun h => h he), hd, if_neg (fun h => h w), if_pos hr]
  refine ⟨hW, ?_⟩
  rcases set_out r e with g | g | g | g
  · exact absurd hW g.2
  · exact absurd hW g.2
  · rw [g.1]
    have hb := wrote_dsk { r with d := r.d.add (encE e) } e
    constructor
    · show tput (({ r with d := r.d.add (encE e) }.wrote e).buried e).tab e.key e = _
      have : (({ r with d := r.d.add (encE e) }.wrote e).buried e).tab = r.tab := hb.2.1
      rw [this, ht]
    · show ({ r with d := r.d.add (encE e) }.wrote e).cnt = r.cnt
      unfold RepV.wrote; split <;> rfl
  · exact absurd hW g.2.1
theorem base_room (h : CfgOK c) (s : Int) : 1 ≤ (baseR c s).room := by
  show (1 : Int) ≤ c.getD 0 0 * c.getD 1 0
  have h0 := h.n0; have h1 := h.n1
  have := Int.mul_le_mul (a := 1) (b := 1) (c := c.getD 0 0) (d := c.getD 1 0) (by omega) h1.1 (by omega) (by omega)
  omega
theorem die_put (h : CfgOK c) (h1 : 1 ≤ k.size ∧ k.size ≤ 16) (h2 : v.size ≤ 32) :
    (baseR c 0).putW k v = 0 ∧ (baseR c 0).putX k v = dieE k v ∧ thas ((baseR c 0).put k v).tab k = true ∧ tget ((baseR c 0).put k v).tab k = dieE k v ∧ ((baseR c 0).put k v).site = 0 := by
  have hc : checkE (putE k v 1 0) = 0 := die_chk h1 h2
  have hr := base_room h 0
  have hq := h.n1
  have hf : (baseR c 0).fullB k = false := by
    unfold RepV.fullB RepV.roomB
    have e1 : decide ((baseR c 0).quota ≤ ((baseR c 0).own.length : Int)) = false := decide_eq_false (by show ¬ c.getD 1 0 ≤ ((0 : Nat) : Int); omega)
    have e2 : decide (((baseR c 0).tab.length : Int) < (baseR c 0).room) = true := decide_eq_true (by show ((0 : Nat) : Int) < _; omega)
    rw [e1, e2]; simp
  have hn : ¬ (4294967295 ≤ (baseR c 0).cnt) := by show ¬ ((4294967295 : Int) ≤ 0); decide
  have hm : checkE (putE k v ((baseR c 0).cnt + 1) (baseR c 0).site) = 0 := hc
  have hs := first_set (r := { baseR c 0 with cnt := (baseR c 0).cnt + 1 }) rfl rfl hr hc
  have hW : (baseR c 0).putW k v = 0 := by
    unfold RepV.putW RepV.writeW
    rw [if_neg (fun g => g hc), if_neg (by rw [hf]; decide), if_neg hn, if_neg (fun g => g hm)]
    exact hs.1
  have hP : (baseR c 0).put k v = { baseR c 0 with cnt := (baseR c 0).cnt + 1 }.set (putE k v 1 0) := by
    unfold RepV.put RepV.write
    rw [if_neg (fun g => g hc), if_neg (by rw [hf]; decide), if_neg hn, if_neg (fun g => g hm)]
    rfl
  refine ⟨hW, ?_, ?_, ?_, ?_⟩
  · unfold RepV.putX; rw [if_pos hW]; rfl
  · rw [hP, hs.2.1, thas_tput List.Pairwise.nil]; show (decide (k = k) || _) = true; simp
  · rw [hP, hs.2.1, tget_tput List.Pairwise.nil]; show (if k = k then _ else _) = _; rw [if_pos rfl]; rfl
  · have := RepV.put_cfg (baseR c 0) k v
    unfold RepV.cfgV at this
    simp only [Prod.mk.injEq] at this
    exact this.2.2.2.2.2
/-- The other node's replica, behind it. -/
def dieB (c : List Int) (k v : ByteArray) : RepV := (baseR c 1).merge (dieE k v)
theorem die_merge (h : CfgOK c) (h1 : 1 ≤ k.size ∧ k.size ≤ 16) (h2 : v.size ≤ 32) :
    (baseR c 1).mergeK (dieE k v) = 1 ∧ (baseR c 1).mergeX (dieE k v) = dieE k v ∧ (dieB c k v).mergeK (dieE k v) = 0 ∧ (dieB c k v).merge (dieE k v) = dieB c k v ∧ thas (dieB c k v).tab k = true ∧ tget (dieB c k v).tab k = dieE k v ∧ (dieB c k v).site = 1 := by
  have hc : checkE (dieE k v) = 0 := die_chk h1 h2
  have hc' : ¬ checkE (dieE k v) ≠ 0 := fun g => g hc
  have hr := base_room h 1
  have hsee : (baseR c 1).see (dieE k v).ac (dieE k v).az = { baseR c 1 with cnt := 1 } := by
    unfold RepV.see
    rw [if_pos (by show (stampB 1 0 && decide ((0 : Int) < 1)) = true; decide)]
    rfl
  have hw : RepV.way { baseR c 1 with cnt := 1 } (dieE k v) = 4 := by
    unfold RepV.way
    rw [if_neg (by show ¬ (false && _) = true; simp), if_neg (by show ¬ (false && _) = true; simp), if_neg ?_, if_neg ?_]
    · show ¬ (false && _) = true; simp
    · unfold RepV.roomB
      have e2 : decide ((({ baseR c 1 with cnt := 1 } : RepV).tab.length : Int) < ({ baseR c 1 with cnt := 1 } : RepV).room) = true := decide_eq_true (by show ((0 : Nat) : Int) < (baseR c 1).room; omega)
      rw [e2]; simp
  have ha : ({ baseR c 1 with cnt := 1 } : RepV).aged (dieE k v) (tget ({ baseR c 1 with cnt := 1 } : RepV).tab (dieE k v).key) = dieE k v := rfl
  have hs := first_set (r := { baseR c 1 with cnt := 1 }) rfl rfl hr hc
  have hB : dieB c k v = ({ baseR c 1 with cnt := 1 } : RepV).set (dieE k v) := by
    unfold dieB RepV.merge
    rw [if_neg hc', hsee]
    unfold RepV.mergeIn
    rw [hw, ← ha]
    rfl
  have htab : (dieB c k v).tab = tput [] k (dieE k v) := by rw [hB]; exact hs.2.1
  have hcnt : (dieB c k v).cnt = 1 := by rw [hB]; exact hs.2.2
  have hth : thas (dieB c k v).tab k = true := by rw [htab, thas_tput List.Pairwise.nil]; simp
  have htg : tget (dieB c k v).tab k = dieE k v := by rw [htab, tget_tput List.Pairwise.nil, if_pos rfl]
  have hsee2 : (dieB c k v).see (dieE k v).ac (dieE k v).az = dieB c k v := by
    unfold RepV.see
    rw [if_neg (by rw [hcnt]; show ¬ (stampB 1 0 && decide ((1 : Int) < 1)) = true; decide)]
  have hway2 : (dieB c k v).way (dieE k v) = 0 := by
    unfold RepV.way
    have e0 : (dieE k v).key = k := rfl
    rw [e0, hth, htg, newerB_irr]
    rfl
  refine ⟨?_, ?_, ?_, ?_, hth, htg, ?_⟩
  · unfold RepV.mergeK
    rw [if_neg hc', hsee]
    unfold RepV.mergeInK
    rw [hw]
    show (if RepV.setW _ (RepV.aged _ _ _) = 0 then (1 : Int) else 0) = 1
    rw [ha, if_pos hs.1]
  · unfold RepV.mergeX
    rw [if_neg hc', hsee]
    unfold RepV.mergeInX
    rw [hw]
    show (if RepV.setW _ (RepV.aged _ _ _) = 0 then RepV.aged _ _ _ else EnV.zero) = _
    rw [ha, if_pos hs.1]
  · unfold RepV.mergeK
    rw [if_neg hc', hsee2]
    unfold RepV.mergeInK
    rw [hway2]
    rfl
  · show RepV.merge (dieB c k v) (dieE k v) = _
    unfold RepV.merge
    rw [if_neg hc', hsee2]
    unfold RepV.mergeIn
    rw [hway2]
    show RepV.stay _ _ = _
    unfold RepV.stay
    rw [if_neg (by show ¬ (_ && false) = true; simp)]
  · have := RepV.merge_cfg (baseR c 1) (dieE k v)
    unfold RepV.cfgV at this
    simp only [Prod.mk.injEq] at this
    exact this.2.2.2.2.2
/-- The rumor at its node behind i rounds. -/
def dieX (L : Nat) (m : MkV) (i : Nat) : List TkV := if i ≤ L then [⟨m, ((i - 1 : Nat) : Int)⟩] else []
/-- What the other node has, and tells. -/
def dieR (c : List Int) (k v : ByteArray) (i : Nat) : RepV := if i = 0 then baseR c 1 else dieB c k v
def dieY (m : MkV) (i : Nat) : List TkV := if i = 0 then [] else [⟨m, 0⟩]
def dieN (k v : ByteArray) (i : Nat) : List EnV := if i = 0 then [dieE k v] else []
def dieM (m : MkV) (i : Nat) : List MkV := if i = 0 then [] else [m]
theorem heat_one {H : Int} (hH : 1 ≤ H) {e : EnV} (he : checkE e = 0) : heatL H [] e = [⟨e.mark, 0⟩] := by
  unfold heatL
  rw [if_neg (fun g => g he)]
  exact if_neg (by show ¬ H < (((0 : Nat) + 1 : Nat) : Int); omega)
theorem die_y (h : CfgOK c) (h1 : 1 ≤ k.size ∧ k.size ≤ 16) (h2 : v.size ≤ 32) (i : Nat) :
    takeM c (dieR c k v i) (dieY (dieK k v) i) [] [dieE k v] = ⟨dieB c k v, [⟨dieK k v, 0⟩], dieN k v i, dieM (dieK k v) i⟩ := by
  obtain ⟨g1, g2, g3, g4, _⟩ := die_merge h h1 h2
  unfold takeM mmL
  rw [List.foldl_cons, List.foldl_nil]
  show mmStep (c.getD 14 0) ⟨dieR c k v i, dieY (dieK k v) i, [], []⟩ (dieE k v) = _
  unfold mmStep dieR dieY dieN dieM
  by_cases hi : i = 0
  · simp only [if_pos hi]
    rw [g1, g2, heat_one h.n14.1 (die_chk h1 h2)]
    rfl
  · simp only [if_neg hi]
    rw [g3, g4]
    rfl
theorem mkEq_rfl (m : MkV) : mkEq m m = true := by unfold mkEq; simp
theorem die_x (h : CfgOK c) {L : Nat} (hL : (L : Int) = c.getD 15 0) (r : RepV) (m : MkV) {i : Nat} (hi : i ≤ L) :
    takeM c r (dieX L m i) (dieM m i) [] = ⟨r, dieX L m (i + 1), [], []⟩ := by
  have h15 := h.n15
  unfold takeM mmL
  rw [List.foldl_nil]
  have : bumpsL (c.getD 15 0) (dieX L m i) (dieM m i) = dieX L m (i + 1) := by
    unfold dieX dieM bumpsL
    rw [if_pos hi]
    by_cases h0 : i = 0
    · subst h0
      rw [if_pos rfl, if_pos (by omega)]
      rfl
    · rw [if_neg h0, List.foldl_cons, List.foldl_nil]
      unfold bumpL
      have hf : [(⟨m, ((i - 1 : Nat) : Int)⟩ : TkV)].findIdx? (fun t => mkEq t.m m) = some 0 := by
        rw [List.findIdx?_cons]; simp [mkEq_rfl]
      rw [hf]
      have hn : (((i - 1 : Nat) : Int) + 1) = (i : Int) := by omega
      have hn2 : ((i + 1 - 1 : Nat) : Int) = (i : Int) := by omega
      simp only [List.set_cons_zero, List.getD_cons_zero, hn, hn2]
      by_cases hl : i + 1 ≤ L
      · rw [if_pos hl, List.filter_cons, if_pos (decide_eq_true (by show (i : Int) < c.getD 15 0; omega))]
        rfl
      · rw [if_neg hl, List.filter_cons, if_neg (by rw [decide_eq_false (by show ¬ (i : Int) < c.getD 15 0; omega)]; decide)]
        rfl
  rw [this]
theorem die_fresh (h : CfgOK c) (h1 : 1 ≤ k.size ∧ k.size ≤ 16) (h2 : v.size ≤ 32) (n : Int) : freshB ((baseR c 0).put k v) ⟨dieK k v, n⟩ = true := by
  obtain ⟨_, _, g3, g4, _⟩ := die_put h h1 h2
  unfold freshB
  show (thas _ k && actEq (tget _ k).ac (tget _ k).az 1 0) = true
  rw [g3, g4]
  rfl
theorem die_told (h : CfgOK c) (h1 : 1 ≤ k.size ∧ k.size ≤ 16) (h2 : v.size ≤ 32) (n : Int) : toldL ((baseR c 0).put k v) (c.getD 17 0) [] [⟨dieK k v, n⟩] = [dieE k v] := by
  have h17 := h.n17
  unfold toldL
  rw [List.foldl_cons, List.foldl_nil, die_fresh h h1 h2]
  rw [if_pos (by rw [decide_eq_true (by show ((0 : Nat) : Int) < _; omega)]; rfl)]
  rw [List.nil_append]
  show [tget _ k] = _
  rw [(die_put h h1 h2).2.2.2.1]
theorem die_back (N : List EnV) (M : List MkV) : backL c ⟨dieB c k v, [⟨dieK k v, 0⟩], N, M⟩ [dieE k v] = [] := by
  unfold backL
  split
  · unfold toldL
    rw [List.foldl_cons, List.foldl_nil]
    have : hasS ([dieE k v].map (·.key)) (dieK k v).key = true := by
      show (_ == _ || false) = true
      simp [dieK, EnV.mark]
    rw [this]
    simp
  · rfl
theorem die_good14 (h1 : 1 ≤ k.size ∧ k.size ≤ 16) (h2 : v.size ≤ 32) (ta : Option Addr) (tn tc : Nat) : goodM (rum14 ta tn tc) [] [dieE k v] = true := by
  have e1 : enCAll (loE 14) (hiE 14) [dieE k v] = true := by
    unfold enCAll enCAny enF
    simp only [List.any_cons, List.any_nil, die_chk h1 h2]
    rfl
  have e2 : goodM (rum14 ta tn tc) [] [dieE k v] = enCAll (loE 14) (hiE 14) [dieE k v] := by kernel_rfl
  rw [e2, e1]
theorem die_good15 (h1 : 1 ≤ k.size ∧ k.size ≤ 16) (h2 : v.size ≤ 32) (i : Nat) (ka : Option Addr) (kn kc : Nat) (ta : Option Addr) (tn tc : Nat) : goodM (echo15 ka kn kc ta tn tc) (dieM (dieK k v) i) [] = true := by
  have hm := check_mark (die_chk h1 h2)
  have e1 : mkCAll (loM 15) (hiM 15) (dieM (dieK k v) i) = true := by
    unfold dieM
    split
    · rfl
    · unfold mkCAll mkCAny
      simp only [List.any_cons, List.any_nil, show markB (dieK k v) = true from hm]
      rfl
  have e2 : ∀ ks, goodM (echo15 ka kn kc ta tn tc) ks [] = (mkCAll (loM 15) (hiM 15) ks && true) := fun ks => by kernel_rfl
  rw [e2, e1]
  rfl
end
end Go.Proofs.YtojfjbbggpfijaaGreatDoor
