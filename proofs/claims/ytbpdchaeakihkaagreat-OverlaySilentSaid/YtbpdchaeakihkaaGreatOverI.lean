/- The overlay: ask. -/
import Derived.Test.YtbpdchaeakihkaaGreatOverH
namespace Go.Proofs.YtbpdchaeakihkaaGreat
open Go.RowKit Go.Qd

def askO1 (O : OV) : OV := if O.asked = -1 then O else { O with since := O.since + 1, asked := -1 }
def askM (O : OV) : MsgV := { kindM 3 with high := ((O.V.a.length : Int) == 0) }
def askO2 (O : OV) : OV := if wantedL O = [] then O else
  { O with D := drawL O.D (wantedL O).length, asked := pickV O.D (wantedL O), since := 0, L := O.L ++ [⟨pickV O.D (wantedL O), askM O⟩] }
def askO (O : OV) : OV := if O.asked ≠ -1 ∧ O.since + 1 < 4 then { O with since := O.since + 1 } else askO2 (askO1 O)

section
variable {W w : World} {R : List HP} {post : Ending → World → Prop} {b d : Nat} {O : OV} {p : Int}

theorem row3c {x y z : Value} (s : St W w (row b 36 [x, y, z] :: R)) :
    w.cell? ⟨b, 36, none⟩ = some x ∧ w.cell? ⟨b, 37, none⟩ = some y ∧ w.cell? ⟨b, 38, none⟩ = some z ∧ w.frozen? ⟨b, 36, none⟩ = false ∧ w.frozen? ⟨b, 37, none⟩ = false ∧ w.frozen? ⟨b, 38, none⟩ = false :=
  ⟨s.rowCell (i := 0) rfl, s.rowCell (i := 1) rfl, s.rowCell (i := 2) rfl, s.rowFree (i := 0) (by simp), s.rowFree (i := 1) (by simp), s.rowFree (i := 2) (by simp)⟩

set_option maxRecDepth 100000 in
set_option maxHeartbeats 3000000 in
theorem ask_c (st : St W w (OvA b d O :: R)) (h : OOK O) (hs : 0 ≤ O.since ∧ O.since ≤ 4) (hL : O.L.length ≤ 4000) (K : ∀ w', St W w' (OvA b d (askO O) :: R) → post (.returned (.tuple #[])) w') :
    Calls Tryz.prog 49 #[.pointer (some ⟨b, 0, none⟩)] w post := by
  have HK := hid K; clear K
  obtain ⟨v, s⟩ := OvA.open st
  obtain ⟨g36, g37, g38, f36, f37, f38⟩ := row3c (St.pick 5 s)
  have hw : IntKind.i64.wrap (O.since + 1) = O.since + 1 := IntWalk.i64_in _ (by omega)
  have HL := hid hL
  by_cases hq : O.asked ≠ -1 ∧ O.since + 1 < 4
  · have e : askO O = { O with since := O.since + 1 } := by unfold askO; rw [if_pos hq]
    rw [e] at HK
    obtain ⟨h1, h2⟩ := hq
    have hb : (O.asked != -1) = true := by simpa using h1
    have s1 := (St.pick 5 s).rowSet (i := 2) (by simp) (.int .i64 (O.since + 1))
    have s1' : St W (w.setCell ⟨b, 38, none⟩ (.int .i64 (O.since + 1))) (row b 36 [.int .i64 O.ticks, .int .i64 O.asked, .int .i64 (O.since + 1)] :: row b 0 [.pointer (some ⟨v, 0, none⟩)] :: NewsA b 1 O.L O.C :: row b 3 (ivs O.cfg) :: row b 23 [.pointer (some ⟨d, 0, none⟩)] :: row b 24 (ivs O.heard) :: ViewsA v O.V :: DiceA d O.D :: R) := s1
    clear e h1
    go_enter Tryz.func49, Tryz.ntmps49
    go_wp2_with fail
    go_end0
    exact HK.out _ (OvA.close (O := { O with since := O.since + 1 }) (s1'.perm [1, 1, 1, 1, 1, 0, 0, 0]))
  · have e : askO O = askO2 (askO1 O) := by unfold askO; rw [if_neg hq]
    rw [e] at HK
    clear e
    have hflow : O.asked = -1 ∨ (O.asked ≠ -1 ∧ ¬ O.since + 1 < 4) := by
      by_cases g : O.asked = -1
      · exact .inl g
      · exact .inr ⟨g, fun g' => hq ⟨g, g'⟩⟩
    have hO1 : OOK (askO1 O) := by unfold askO1; split <;> exact ⟨h.v, h.cl, h.hl, h.r⟩
    have hL1 : (askO1 O).L.length ≤ 4000 := by unfold askO1; split <;> exact hL
    have HO1 := hid hO1
    have HL1 := hid hL1
    clear hq hO1 hL1
    rcases hflow with h1 | ⟨h1, h2⟩
    · have e1 : askO1 O = O := by unfold askO1; rw [if_pos h1]
      rw [e1] at HK HO1 HL1
      have hb : (O.asked != -1) = false := by simp [h1]
      clear e1 h1 h
      have s1 := st
      go_enter Tryz.func49, Tryz.ntmps49
      go_wp2_with fail
      obtain ⟨Q, hQ⟩ : ∃ Q, wantedL (O) = Q := ⟨_, rfl⟩
      have HQ := hid hQ
      have u := s1.drew
      obtain ⟨v2, t1⟩ := OvA.open s1
      have k1 := row1c (St.pick 3 t1.drew)
      have HN := hid (show (O).V.a.length ≤ 4096 from Nat.le_trans HO1.out.v.na4 (by decide))
      cases Q with
      | nil =>
        have e2 : askO2 (O) = O := by unfold askO2; rw [if_pos hQ]
        rw [e2] at HK
        clear e2 hQ
        go_region_law (first
          | (go_simp; go_at_call 91; refine wanted_c u HO1.out ?_; rintro ao n c w2 s2; rw [HQ.out] at s2; obtain ⟨v3, t2⟩ := OvA.open (St.pick 1 s2); have k2 := row1c (St.pick 3 t2))
          | (go_simp; go_at_call 90; refine pick_c (zs := []) (St.pick 7 t2) (fun w' s => OwnS.rd (St.pick 7 s)) ?_; rintro w3 s3; rw [if_pos rfl] at s3; rw [if_pos rfl]))
        all_goals
          go_wp2_with fail
          go_end0
          exact HK.out _ (St.drop (St.pick 1 (OvA.close (O := O) (s3.perm [1, 1, 1, 1, 1, 1, 1, 0]))))
      | cons q Q' =>
        have hne : wantedL (O) ≠ [] := by rw [hQ]; exact List.cons_ne_nil _ _
        have e2 : askO2 (O) = { (O : OV) with D := drawL (O).D (wantedL (O)).length, asked := pickV (O).D (wantedL (O)), since := 0, L := (O).L ++ [⟨pickV (O).D (wantedL (O)), askM (O)⟩] } := by unfold askO2; rw [if_neg hne]
        rw [e2, hQ] at HK
        clear e2 hQ hne
        have hqn : ¬ (q :: Q' = []) := List.cons_ne_nil _ _
        have HQN := hid hqn
        clear hqn
        obtain ⟨pv, hpv⟩ : ∃ pv, pickV (O).D (q :: Q') = pv := ⟨_, rfl⟩
        rw [hpv] at HK
        have HPV := hid hpv
        clear hpv
        obtain ⟨na, hna⟩ : ∃ na, (O).V.a.length = na := ⟨_, rfl⟩
        have HNA := hid hna
        obtain ⟨hb2, hhb2⟩ : ∃ hb2, ((na : Int) == 0) = hb2 := ⟨_, rfl⟩
        have eM : askM (O) = { kindM 3 with high := hb2 } := by unfold askM; rw [hna, hhb2]
        rw [eM] at HK
        clear eM hna
        go_region_law (first
          | (go_simp; go_at_call 91; refine wanted_c u HO1.out ?_; rintro ao n c w2 s2; rw [HQ.out] at s2; obtain ⟨v3, t2⟩ := OvA.open (St.pick 1 s2); have k2 := row1c (St.pick 3 t2))
          | (go_simp; go_at_call 90; refine pick_c (zs := q :: Q') (St.pick 7 t2) (fun w' s => OwnS.rd (St.pick 7 s)) ?_; rintro w3 s3; rw [if_neg HQN.out] at s3; rw [if_neg HQN.out, HPV.out]; obtain ⟨m36, m37, m38, l36, l37, l38⟩ := row3c (St.pick 6 s3)
             have s4 := ((St.pick 6 s3).rowSet (i := 1) (by simp) (.int .i64 pv)).rowSet (i := 2) (by simp) (.int .i64 0)))
        all_goals
          have s4' : St W ((w3.setCell ⟨b, 37, none⟩ (.int .i64 pv)).setCell ⟨b, 38, none⟩ (.int .i64 0)) (row b 36 [.int .i64 (O).ticks, .int .i64 pv, .int .i64 0] :: DiceA d (drawL (O).D (q :: Q').length) :: row b 0 [.pointer (some ⟨v3, 0, none⟩)] :: NewsA b 1 (O).L (O).C :: row b 3 (ivs (O).cfg) :: row b 23 [.pointer (some ⟨d, 0, none⟩)] :: row b 24 (ivs (O).heard) :: ViewsA v3 (O).V :: OwnS 1 ao n c (ivs (q :: Q')) :: R) := s4
          clear s4
          go_wp2_with fail
          generalize (w3.setCell ⟨b, 37, none⟩ (.int .i64 pv)).setCell ⟨b, 38, none⟩ (.int .i64 0) = w4 at s4' ⊢
          have k4 := row1c (St.pick 2 s4'.drew)
          go_region_law (first
            | (go_simp; go_at_call 16; refine active_c (St.pick 7 s4'.drew) HN.out ?_; rintro a5 c5 w5 s5; rw [HNA.out]; have k5 := row1c (St.pick 4 s5))
            | (go_simp; go_at_call 44; refine send_c (to := pv) (m := { kindM 3 with high := hb2 }) ((OwnS.none0 (sz := 1) s5).perm [6, 0]) (by have := HL1.out; omega) ?_; rintro w6 s6))
          all_goals
            go_end0
            exact HK.out _ (St.drop (St.pick 1 (St.drop (St.pick 1 (OvA.close (O := { (O : OV) with D := drawL (O).D (q :: Q').length, asked := pv, since := 0, L := (O).L ++ [⟨pv, { kindM 3 with high := hb2 }⟩] }) (s6.perm [5, 0, 4, 4, 4, 2, 1, 1]))))))
    · have e1 : askO1 O = { O with since := O.since + 1, asked := -1 } := by unfold askO1; rw [if_neg h1]
      rw [e1] at HK HO1 HL1
      have hb : (O.asked != -1) = true := by simpa using h1
      have h2' : ¬ O.since + 1 < 4 := h2
      have s0 := ((St.pick 5 s).rowSet (i := 2) (by simp) (.int .i64 (O.since + 1))).rowSet (i := 1) (by simp) (.int .i64 (-1))
      have s0' : St W ((w.setCell ⟨b, 38, none⟩ (.int .i64 (O.since + 1))).setCell ⟨b, 37, none⟩ (.int .i64 (-1))) (row b 36 [.int .i64 O.ticks, .int .i64 (-1), .int .i64 (O.since + 1)] :: row b 0 [.pointer (some ⟨v, 0, none⟩)] :: NewsA b 1 O.L O.C :: row b 3 (ivs O.cfg) :: row b 23 [.pointer (some ⟨d, 0, none⟩)] :: row b 24 (ivs O.heard) :: ViewsA v O.V :: DiceA d O.D :: R) := s0
      have s1 := OvA.close (O := { O with since := O.since + 1, asked := -1 }) (s0'.perm [1, 1, 1, 1, 1, 0, 0, 0])
      clear e1 h1 h2 h s0 s0'
      go_enter Tryz.func49, Tryz.ntmps49
      go_wp2_with fail
      clear g36 g37 g38 f36 f37 f38
      generalize (w.setCell ⟨b, 38, none⟩ (.int .i64 (O.since + 1))).setCell ⟨b, 37, none⟩ (.int .i64 (-1)) = wz at s1 ⊢
      obtain ⟨Q, hQ⟩ : ∃ Q, wantedL ({ O with since := O.since + 1, asked := -1 }) = Q := ⟨_, rfl⟩
      have HQ := hid hQ
      have u := s1.drew
      obtain ⟨v2, t1⟩ := OvA.open s1
      have k1 := row1c (St.pick 3 t1.drew)
      have HN := hid (show ({ O with since := O.since + 1, asked := -1 }).V.a.length ≤ 4096 from Nat.le_trans HO1.out.v.na4 (by decide))
      cases Q with
      | nil =>
        have e2 : askO2 ({ O with since := O.since + 1, asked := -1 }) = { O with since := O.since + 1, asked := -1 } := by unfold askO2; rw [if_pos hQ]
        rw [e2] at HK
        clear e2 hQ
        go_region_law (first
          | (go_simp; go_at_call 91; refine wanted_c u HO1.out ?_; rintro ao n c w2 s2; rw [HQ.out] at s2; obtain ⟨v3, t2⟩ := OvA.open (St.pick 1 s2); have k2 := row1c (St.pick 3 t2))
          | (go_simp; go_at_call 90; refine pick_c (zs := []) (St.pick 7 t2) (fun w' s => OwnS.rd (St.pick 7 s)) ?_; rintro w3 s3; rw [if_pos rfl] at s3; rw [if_pos rfl]))
        all_goals
          go_wp2_with fail
          go_end0
          exact HK.out _ (St.drop (St.pick 1 (OvA.close (O := { O with since := O.since + 1, asked := -1 }) (s3.perm [1, 1, 1, 1, 1, 1, 1, 0]))))
      | cons q Q' =>
        have hne : wantedL ({ O with since := O.since + 1, asked := -1 }) ≠ [] := by rw [hQ]; exact List.cons_ne_nil _ _
        have e2 : askO2 ({ O with since := O.since + 1, asked := -1 }) = { ({ O with since := O.since + 1, asked := -1 } : OV) with D := drawL ({ O with since := O.since + 1, asked := -1 }).D (wantedL ({ O with since := O.since + 1, asked := -1 })).length, asked := pickV ({ O with since := O.since + 1, asked := -1 }).D (wantedL ({ O with since := O.since + 1, asked := -1 })), since := 0, L := ({ O with since := O.since + 1, asked := -1 }).L ++ [⟨pickV ({ O with since := O.since + 1, asked := -1 }).D (wantedL ({ O with since := O.since + 1, asked := -1 })), askM ({ O with since := O.since + 1, asked := -1 })⟩] } := by unfold askO2; rw [if_neg hne]
        rw [e2, hQ] at HK
        clear e2 hQ hne
        have hqn : ¬ (q :: Q' = []) := List.cons_ne_nil _ _
        have HQN := hid hqn
        clear hqn
        obtain ⟨pv, hpv⟩ : ∃ pv, pickV ({ O with since := O.since + 1, asked := -1 }).D (q :: Q') = pv := ⟨_, rfl⟩
        rw [hpv] at HK
        have HPV := hid hpv
        clear hpv
        obtain ⟨na, hna⟩ : ∃ na, ({ O with since := O.since + 1, asked := -1 }).V.a.length = na := ⟨_, rfl⟩
        have HNA := hid hna
        obtain ⟨hb2, hhb2⟩ : ∃ hb2, ((na : Int) == 0) = hb2 := ⟨_, rfl⟩
        have eM : askM ({ O with since := O.since + 1, asked := -1 }) = { kindM 3 with high := hb2 } := by unfold askM; rw [hna, hhb2]
        rw [eM] at HK
        clear eM hna
        go_region_law (first
          | (go_simp; go_at_call 91; refine wanted_c u HO1.out ?_; rintro ao n c w2 s2; rw [HQ.out] at s2; obtain ⟨v3, t2⟩ := OvA.open (St.pick 1 s2); have k2 := row1c (St.pick 3 t2))
          | (go_simp; go_at_call 90; refine pick_c (zs := q :: Q') (St.pick 7 t2) (fun w' s => OwnS.rd (St.pick 7 s)) ?_; rintro w3 s3; rw [if_neg HQN.out] at s3; rw [if_neg HQN.out, HPV.out]; obtain ⟨m36, m37, m38, l36, l37, l38⟩ := row3c (St.pick 6 s3)
             have s4 := ((St.pick 6 s3).rowSet (i := 1) (by simp) (.int .i64 pv)).rowSet (i := 2) (by simp) (.int .i64 0)))
        all_goals
          have s4' : St W ((w3.setCell ⟨b, 37, none⟩ (.int .i64 pv)).setCell ⟨b, 38, none⟩ (.int .i64 0)) (row b 36 [.int .i64 ({ O with since := O.since + 1, asked := -1 }).ticks, .int .i64 pv, .int .i64 0] :: DiceA d (drawL ({ O with since := O.since + 1, asked := -1 }).D (q :: Q').length) :: row b 0 [.pointer (some ⟨v3, 0, none⟩)] :: NewsA b 1 ({ O with since := O.since + 1, asked := -1 }).L ({ O with since := O.since + 1, asked := -1 }).C :: row b 3 (ivs ({ O with since := O.since + 1, asked := -1 }).cfg) :: row b 23 [.pointer (some ⟨d, 0, none⟩)] :: row b 24 (ivs ({ O with since := O.since + 1, asked := -1 }).heard) :: ViewsA v3 ({ O with since := O.since + 1, asked := -1 }).V :: OwnS 1 ao n c (ivs (q :: Q')) :: R) := s4
          clear s4
          go_wp2_with fail
          generalize (w3.setCell ⟨b, 37, none⟩ (.int .i64 pv)).setCell ⟨b, 38, none⟩ (.int .i64 0) = w4 at s4' ⊢
          have k4 := row1c (St.pick 2 s4'.drew)
          go_region_law (first
            | (go_simp; go_at_call 16; refine active_c (St.pick 7 s4'.drew) HN.out ?_; rintro a5 c5 w5 s5; rw [HNA.out]; have k5 := row1c (St.pick 4 s5))
            | (go_simp; go_at_call 44; refine send_c (to := pv) (m := { kindM 3 with high := hb2 }) ((OwnS.none0 (sz := 1) s5).perm [6, 0]) (by have := HL1.out; omega) ?_; rintro w6 s6))
          all_goals
            go_end0
            exact HK.out _ (St.drop (St.pick 1 (St.drop (St.pick 1 (OvA.close (O := { ({ O with since := O.since + 1, asked := -1 } : OV) with D := drawL ({ O with since := O.since + 1, asked := -1 }).D (q :: Q').length, asked := pv, since := 0, L := ({ O with since := O.since + 1, asked := -1 }).L ++ [⟨pv, { kindM 3 with high := hb2 }⟩] }) (s6.perm [5, 0, 4, 4, 4, 2, 1, 1]))))))


end

end Go.Proofs.YtbpdchaeakihkaaGreat
