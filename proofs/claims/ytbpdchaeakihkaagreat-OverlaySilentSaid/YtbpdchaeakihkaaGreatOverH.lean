/- The overlay: Heard, Join, wanted. -/
import Derived.Test.YtbpdchaeakihkaaGreatOverG
namespace Go.Proofs.YtbpdchaeakihkaaGreat
open Go.RowKit Go.Qd

def learnO (O : OV) (p : Int) : OV := { O with V := learnV O.V O.D p, D := learnD O.V O.D p }
def heardO (O : OV) (p : Int) : OV := learnO (if memB O.V.a p then { O with heard := O.heard.set p.toNat 0 } else O) p
/-- What came about is told. -/
def freshO (O : OV) : OV := { O with L := [], C := [] }
def wantedL (O : OV) : List Int := if O.V.am ≤ (O.V.a.length : Int) then [] else O.V.p

theorem OOK.learn {O : OV} (h : OOK O) (p : Int) : OOK (learnO O p) := ⟨h.v.learn O.D p, h.cl, h.hl, h.r⟩
theorem OOK.heard {O : OV} (h : OOK O) (p : Int) : OOK (heardO O p) := by
  unfold heardO
  split
  · exact OOK.learn (O := { O with heard := O.heard.set p.toNat 0 }) ⟨h.v, h.cl, by show (O.heard.set p.toNat 0).length = 12; rw [List.length_set]; exact h.hl, h.r⟩ p
  · exact h.learn p
theorem OOK.fresh {O : OV} (h : OOK O) : OOK (freshO O) := ⟨h.v, h.cl, h.hl, h.r⟩
theorem OOK.nodes {O : OV} (h : OOK O) : 2 ≤ O.cfg.getD 0 0 ∧ O.cfg.getD 0 0 ≤ 12 := by
  have f := rightB_iff.1 h.r 0 (by decide)
  have h1 := fine_lo f
  have h2 := fine_hi f
  exact ⟨by simpa [leastF] using h1, by simpa [mostF] using h2⟩
theorem onode_nat {O : OV} {p : Int} (h : OOK O) (hn : onodeB O p = true) : ∃ j : Nat, p = j ∧ j < 12 := by
  unfold onodeB thereB at hn
  simp only [Bool.and_eq_true, decide_eq_true_eq] at hn
  have := h.nodes
  exact ⟨p.toNat, by omega, by omega⟩

theorem raiseO_len (O : OV) (p : Int) : (raiseO O p).L.length ≤ O.L.length + 1 := by
  unfold raiseO
  by_cases h : raiseOk O.V p = true
  · rw [if_pos h]
    show (if 0 ≤ raiseG O.V O.D then O.L ++ [(⟨raiseG O.V O.D, kindM 6⟩ : LetV)] else O.L).length ≤ _
    by_cases g : 0 ≤ raiseG O.V O.D
    · rw [if_pos g, List.length_append]; exact Nat.le_refl _
    · rw [if_neg g]; omega
  · rw [if_neg h]; omega
theorem raiseO_lenC (O : OV) (p : Int) : (raiseO O p).C.length ≤ O.C.length + 2 := by
  unfold raiseO
  by_cases h : raiseOk O.V p = true
  · rw [if_pos h]
    show ((if 0 ≤ raiseG O.V O.D then O.C ++ [(raiseG O.V O.D, false)] else O.C) ++ [(p, true)]).length ≤ _
    by_cases g : 0 ≤ raiseG O.V O.D
    · rw [if_pos g, List.length_append, List.length_append]; exact Nat.le_refl _
    · rw [if_neg g, List.length_append]; simp
  · rw [if_neg h]; omega

section
variable {W w : World} {R : List HP} {post : Ending → World → Prop} {b d : Nat} {O : OV} {p : Int}

theorem learn_c {v : Nat} {V : VV} {D : List Int} (st : St W w (ViewsA v V :: DiceA d D :: R)) (hV : VOK V)
    (K : ∀ w', St W w' (ViewsA v (learnV V D p) :: DiceA d (learnD V D p) :: R) → post (.returned (.bool (learnOk V p))) w') :
    Calls Tryz.prog 47 #[.pointer (some ⟨v, 0, none⟩), .int .i64 p, .pointer (some ⟨d, 0, none⟩)] w post := by
  by_cases h : learnOk V p = true
  · rw [h] at K
    exact learn_yes st hV h K
  · have h' : learnOk V p = false := by simpa using h
    have e1 : learnV V D p = V := by unfold learnV; rw [if_neg h]
    have e2 : learnD V D p = D := by unfold learnD; rw [if_neg h]
    rw [h', e1, e2] at K
    exact learn_no st h' (K w st)

set_option maxRecDepth 100000 in
theorem heard_no (st : St W w (OvA b d O :: R)) (h : OOK O) (hn : onodeB O p = false) (K : post (.returned (.int .i64 1)) w) : Calls Tryz.prog 17 #[.pointer (some ⟨b, 0, none⟩), .int .i64 p] w post := by
  have HK := hid K; clear K
  have HN := hid hn
  have hcl := h.cl
  clear hn h
  go_enter Tryz.func17, Tryz.ntmps17
  go_wp2_with (go_at_call 42; refine onode_c st hcl ?_; rw [HN.out])
  exact HK.out

set_option maxRecDepth 100000 in
set_option maxHeartbeats 2000000 in
theorem heard_c (st : St W w (OvA b d O :: R)) (h : OOK O) (hn : onodeB O p = true) (K : ∀ w', St W w' (OvA b d (heardO O p) :: R) → post (.returned (.int .i64 0)) w') : Calls Tryz.prog 17 #[.pointer (some ⟨b, 0, none⟩), .int .i64 p] w post := by
  have HK := hid K; clear K
  obtain ⟨j, rfl, hj⟩ := onode_nat h hn
  have hj2 : (j : Int) < 12 := by omega
  have HN := hid hn
  have hcl := h.cl
  have HV := hid h.v
  have HH := hid h.hl
  obtain ⟨v, s⟩ := OvA.open st
  have g0 := row1c s
  clear hn h
  unfold heardO at HK
  obtain ⟨z, hz⟩ : ∃ z, memB O.V.a (j : Int) = z := ⟨_, rfl⟩
  rw [hz] at HK
  have HZ := hid hz
  clear hz
  cases z with
  | true =>
    simp only [if_true] at HK
    have hc5 := cfg_off (St.pick 4 s) (i := j) (by rw [HH.out]; exact hj)
    have hf5 := (St.pick 4 s).rowFree (i := j) (by rw [ivs_length, HH.out]; exact hj)
    have s1 := (St.pick 4 s).rowSet (i := j) (by rw [ivs_length, HH.out]; exact hj) (.int .i64 0)
    rw [show (ivs O.heard).set j (.int .i64 0) = ivs (O.heard.set j 0) from by simp [ivs, List.map_set]] at s1
    have s2 := s1.drew
    have k0 := row1c (St.pick 1 s2)
    have k1 := row1c (St.pick 4 s2)
    go_enter Tryz.func17, Tryz.ntmps17
    go_wp2_with (first
      | (go_at_call 42; refine onode_c st hcl ?_; rw [HN.out])
      | (go_at_call 46; refine isActive_c (St.pick 6 s) ?_; rw [HZ.out]))
    go_region_law (go_simp; go_at_call 47; refine learn_c (s2.perm [6, 6]) HV.out ?_; rintro w3 s3)
    all_goals
      go_wp2_with fail
      exact HK.out _ (OvA.close (O := learnO { O with heard := O.heard.set j 0 } j) (s3.perm [3, 3, 3, 3, 2, 2, 0, 0]))
  | false =>
    simp only [Bool.false_eq_true, if_false] at HK
    have s2 := s.drew
    have k0 := row1c s2
    have k1 := row1c (St.pick 3 s2)
    go_enter Tryz.func17, Tryz.ntmps17
    go_wp2_with (first
      | (go_at_call 42; refine onode_c st hcl ?_; rw [HN.out])
      | (go_at_call 46; refine isActive_c (St.pick 6 s) ?_; rw [HZ.out]))
    go_region_law (go_simp; go_at_call 47; refine learn_c (s2.perm [6, 6]) HV.out ?_; rintro w3 s3)
    all_goals
      go_wp2_with fail
      exact HK.out _ (OvA.close (O := learnO O j) (s3.perm [2, 2, 2, 2, 2, 2, 0, 0]))

set_option maxRecDepth 100000 in
theorem join_no (st : St W w (OvA b d O :: R)) (h : OOK O) (hn : onodeB O p = false) (K : post (.returned (.tuple #[.slice none 0 0, .slice none 0 0, .int .i64 1])) w) : Calls Tryz.prog 15 #[.pointer (some ⟨b, 0, none⟩), .int .i64 p] w post := by
  have HK := hid K; clear K
  have HN := hid hn
  have hcl := h.cl
  clear hn h
  go_enter Tryz.func15, Tryz.ntmps15
  go_wp2_with (go_at_call 42; refine onode_c st hcl ?_; rw [HN.out])
  go_ret3
  exact HK.out

def joinL (O : OV) (p : Int) : List LetV := (raiseO O p).L ++ [⟨p, kindM 1⟩]

set_option maxRecDepth 100000 in
set_option maxHeartbeats 2000000 in
theorem join_c (st : St W w (OvA b d O :: R)) (h : OOK O) (hn : onodeB O p = true) (hL : O.L.length ≤ 100) (hC : O.C.length ≤ 100)
    (K : ∀ la ln lc ca cn cc w', St W w' (OvA b d (freshO (raiseO O p)) :: OwnS 13 la ln lc (letC (joinL O p)) :: OwnS 2 ca cn cc (chC (raiseO O p).C) :: sepL ((joinL O p).map LetV.own) :: R) →
      post (.returned (.tuple #[.slice la ln lc, .slice ca cn cc, .int .i64 0])) w') : Calls Tryz.prog 15 #[.pointer (some ⟨b, 0, none⟩), .int .i64 p] w post := by
  have HK := hid K; clear K
  have HN := hid hn
  have hcl := h.cl
  have HO := hid h
  have hl2 : (raiseO O p).L.length ≤ 4000 := by have := raiseO_len O p; omega
  have HL := hid hl2
  clear hn h hl2
  go_enter Tryz.func15, Tryz.ntmps15
  go_wp2_with (first
    | (go_at_call 42; refine onode_c st hcl ?_; rw [HN.out])
    | (go_at_call 43; refine oraise_c st HO.out (by omega) (by omega) ?_; rintro w1 s1; obtain ⟨v, s2⟩ := OvA.open s1)
    | (go_at_call 44; refine send_c (m := kindM 1) ((OwnS.none0 (sz := 1) s2).perm [2, 0]) (by have := HL.out; omega) ?_; rintro w3 s3; have s4 := OvA.close (O := { raiseO O p with L := joinL O p }) (s3.perm [1]))
    | (go_at_call 45; refine told_c s4 ?_; rintro la ln lc ca cn cc w5 s5))
  go_ret3
  exact HK.out _ _ _ _ _ _ _ s5

set_option maxRecDepth 100000 in
theorem wanted_c (st : St W w (OvA b d O :: R)) (h : OOK O) (K : ∀ ao n c w', St W w' (OwnS 1 ao n c (ivs (wantedL O)) :: OvA b d O :: R) → post (.returned (.slice ao n c)) w') : Calls Tryz.prog 91 #[.pointer (some ⟨b, 0, none⟩)] w post := by
  have HK := hid K; clear K
  have hp4 := hid (show O.V.p.length ≤ 4096 from Nat.le_trans h.v.np4 (by decide))
  obtain ⟨v, s⟩ := OvA.open st
  have g0 := row1c s
  unfold wantedL at HK
  obtain ⟨z, hz⟩ : ∃ z, decide (O.V.am ≤ (O.V.a.length : Int)) = z := ⟨_, rfl⟩
  have HZ := hid hz
  clear h
  cases z with
  | true =>
    rw [if_pos (of_decide_eq_true hz)] at HK
    clear hz
    go_enter Tryz.func91, Tryz.ntmps91
    go_wp2_with (go_at_call 100; refine vfull_c (St.pick 6 s) ?_; rintro w1 s1; rw [HZ.out])
    exact HK.out none 0 0 _ (OwnS.none0 (OvA.close (O := O) (s1.perm [1, 1, 1, 1, 1, 1, 0])))
  | false =>
    rw [if_neg (of_decide_eq_false hz)] at HK
    clear hz
    go_enter Tryz.func91, Tryz.ntmps91
    go_wp2_with (first
      | (go_at_call 100; refine vfull_c (St.pick 6 s) ?_; rintro w1 s1; rw [HZ.out]; have g1 := row1c (St.pick 1 s1))
      | (go_at_call 21; refine passive_c s1 hp4.out ?_; rintro ao c w2 s2))
    exact HK.out _ _ _ _ (St.pick 1 (OvA.close (O := O) (s2.perm [2, 2, 2, 2, 2, 2, 1, 1])))

end

end Go.Proofs.YtbpdchaeakihkaaGreat
