/- Beats: several texts, joined. The overlay: ask. -/
import Derived.Test.YtbpdchaeakihkaaGreatNews
namespace Go.Proofs.YtbpdchaeakihkaaGreat
open Go.RowKit Go.Qd

def askO1 (O : OV) : OV := if O.asked = -1 then O else { O with since := O.since + 1, asked := -1 }
def askM (O : OV) : MsgV := { kindM 3 with high := ((O.V.a.length : Int) == 0) }
def askO2 (O : OV) : OV := if wantedL O = [] then O else
  { O with D := drawL O.D (wantedL O).length, asked := pickV O.D (wantedL O), since := 0, L := O.L ++ [⟨pickV O.D (wantedL O), askM O⟩] }
def askO (O : OV) : OV := if O.asked ≠ -1 ∧ O.since + 1 < 4 then { O with since := O.since + 1 } else askO2 (askO1 O)

section
variable {W w : World} {R : List HP} {post : Ending → World → Prop} {b d : Nat} {O : OV} {p : Int}

theorem row3c {x y z : Value} (s : St W w (row b 36 [x, y, z] :: R)) :
    w.cell? ⟨b, 36, none⟩ = some x ∧ w.cell? ⟨b, 37, none⟩ = some y ∧ w.cell? ⟨b, 38, none⟩ = some z ∧ w.frozen? ⟨b, 36, none⟩ = false ∧ w.frozen? ⟨b, 37, none⟩ = false ∧ w.frozen? ⟨b, 38, none⟩ = false :=
  ⟨s.rowCell (i := 0) rfl, s.rowCell (i := 1) rfl, s.rowCell (i := 2) rfl, s.rowFree (i := 0) (by simp), s.rowFree (i := 1) (by simp), s.rowFree (i := 2) (by simp)⟩

set_option maxRecDepth 100000 in
set_option maxHeartbeats 3000000 in
theorem ask_c (st : St W w (OvA b d O :: R)) (h : OOK O) (hs : 0 ≤ O.since ∧ O.since ≤ 4) (hL : O.L.length ≤ 4000) (K : ∀ w', St W w' (OvA b d (askO O) :: R) → post (.returned (.tuple #[])) w') :
    Calls Tryz.prog 49 #[.pointer (some ⟨b, 0, none⟩)] w post := by
  have HK := hid K; clear K
  obtain ⟨v, s⟩ := OvA.open st
  obtain ⟨g36, g37, g38, f36, f37, f38⟩ := row3c (St.pick 5 s)
  have hw : IntKind.i64.wrap (O.since + 1) = O.since + 1 := IntWalk.i64_in _ (by omega)
  have HL := hid hL
  by_cases hq : O.asked ≠ -1 ∧ O.since + 1 < 4
  · have e : askO O = { O with since := O.since + 1 } := by unfold askO; rw [if_pos hq]
    rw [e] at HK
    obtain ⟨h1, h2⟩ := hq
    have hb : (O.asked != -1) = true := by simpa using h1
    have s1 := (St.pick 5 s).rowSet (i := 2) (by simp) (.int .i64 (O.since + 1))
    have s1' : St W (w.setCell ⟨b, 38, none⟩ (.int .i64 (O.since + 1))) (row b 36 [.int .i64 O.ticks, .int .i64 O.asked, .int .i64 (O.since + 1)] :: row b 0 [.pointer (some ⟨v, 0, none⟩)] :: NewsA b 1 O.L O.C :: row b 3 (ivs O.cfg) :: row b 23 [.pointer (some ⟨d, 0, none⟩)] :: row b 24 (ivs O.heard) :: ViewsA v O.V :: DiceA d O.D :: R) := s1
    clear e h1
    go_enter Tryz.func49, Tryz.ntmps49
    go_wp2_with fail
    go_end0
    exact HK.out _ (OvA.close (O := { O with since := O.since + 1 }) (s1'.perm [1, 1, 1, 1, 1, 0, 0, 0]))
  · have e : askO O = askO2 (askO1 O) := by unfold askO; rw [if_neg hq]
    rw [e] at HK
    clear e
    have hflow : O.asked = -1 ∨ (O.asked ≠ -1 ∧ ¬ O.since + 1 < 4) := by
      by_cases g : O.asked = -1
      · exact .inl g
      · exact .inr ⟨g, fun g' => hq ⟨g, g'⟩⟩
    have hO1 : OOK (askO1 O) := by unfold askO1; split <;> exact ⟨h.v, h.cl, h.hl, h.r⟩
    have hL1 : (askO1 O).L.length ≤ 4000 := by unfold askO1; split <;> exact hL
    have HO1 := hid hO1
    have HL1 := hid hL1
    clear hq hO1 hL1
    rcases hflow with h1 | ⟨h1, h2⟩
    · have e1 : askO1 O = O := by unfold askO1; rw [if_pos h1]
      rw [e1] at HK HO1 HL1
      have hb : (O.asked != -1) = false := by simp [h1]
      clear e1 h1 h
      have s1 := st
      go_enter Tryz.func49, Tryz.ntmps49
      go_wp2_with fail
      obtain ⟨Q, hQ⟩ : ∃ Q, wantedL (O) = Q := ⟨_, rfl⟩
      have HQ := hid hQ
      have u := s1.drew
      obtain ⟨v2, t1⟩ := OvA.open s1
      have k1 := row1c (St.pick 3 t1.drew)
      have HN := hid (show (O).V.a.length ≤ 4096 from Nat.le_trans HO1.out.v.na4 (by decide))
      cases Q with
      | nil =>
        have e2 : askO2 (O) = O := by unfold askO2; rw [if_pos hQ]
        rw [e2] at HK
        clear e2 hQ
        go_region_law (first
          | (go_simp; go_at_call 91; refine wanted_c u HO1.out ?_; rintro ao n c w2 s2; rw [HQ.out] at s2; obtain ⟨v3, t2⟩ := OvA.open (St.pick 1 s2); have k2 := row1c (St.pick 3 t2))
          | (go_simp; go_at_call 90; refine pick_c (zs := []) (St.pick 7 t2) (fun w' s => OwnS.rd (St.pick 7 s)) ?_; rintro w3 s3; rw [if_pos rfl] at s3; rw [if_pos rfl]))
        all_goals
          go_wp2_with fail
          go_end0
          exact HK.out _ (St.drop (St.pick 1 (OvA.close (O := O) (s3.perm [1, 1, 1, 1, 1, 1, 1, 0]))))
      | cons q Q' =>
        have hne : wantedL (O) ≠ [] := by rw [hQ]; exact List.cons_ne_nil _ _
        have e2 : askO2 (O) = { (O : OV) with D := drawL (O).D (wantedL (O)).length, asked := pickV (O).D (wantedL (O)), since := 0, L := (O).L ++ [⟨pickV (O).D (wantedL (O)), askM (O)⟩] } := by unfold askO2; rw [if_neg hne]
        rw [e2, hQ] at HK
        clear e2 hQ hne
        have hqn : ¬ (q :: Q' = []) := List.cons_ne_nil _ _
        have HQN := hid hqn
        clear hqn
        obtain ⟨pv, hpv⟩ : ∃ pv, pickV (O).D (q :: Q') = pv := ⟨_, rfl⟩
        rw [hpv] at HK
        have HPV := hid hpv
        clear hpv
        obtain ⟨na, hna⟩ : ∃ na, (O).V.a.length = na := ⟨_, rfl⟩
        have HNA := hid hna
        obtain ⟨hb2, hhb2⟩ : ∃ hb2, ((na : Int) == 0) = hb2 := ⟨_, rfl⟩
        have eM : askM (O) = { kindM 3 with high := hb2 } := by unfold askM; rw [hna, hhb2]
        rw [eM] at HK
        clear eM hna
        go_region_law (first
          | (go_simp; go_at_call 91; refine wanted_c u HO1.out ?_; rintro ao n c w2 s2; rw [HQ.out] at s2; obtain ⟨v3, t2⟩ := OvA.open (St.pick 1 s2); have k2 := row1c (St.pick 3 t2))
          | (go_simp; go_at_call 90; refine pick_c (zs := q :: Q') (St.pick 7 t2) (fun w' s => OwnS.rd (St.pick 7 s)) ?_; rintro w3 s3; rw [if_neg HQN.out] at s3; rw [if_neg HQN.out, HPV.out]; obtain ⟨m36, m37, m38, l36, l37, l38⟩ := row3c (St.pick 6 s3)
             have s4 := ((St.pick 6 s3).rowSet (i := 1) (by simp) (.int .i64 pv)).rowSet (i := 2) (by simp) (.int .i64 0)))
        all_goals
          have s4' : St W ((w3.setCell ⟨b, 37, none⟩ (.int .i64 pv)).setCell ⟨b, 38, none⟩ (.int .i64 0)) (row b 36 [.int .i64 (O).ticks, .int .i64 pv, .int .i64 0] :: DiceA d (drawL (O).D (q :: Q').length) :: row b 0 [.pointer (some ⟨v3, 0, none⟩)] :: NewsA b 1 (O).L (O).C :: row b 3 (ivs (O).cfg) :: row b 23 [.pointer (some ⟨d, 0, none⟩)] :: row b 24 (ivs (O).heard) :: ViewsA v3 (O).V :: OwnS 1 ao n c (ivs (q :: Q')) :: R) := s4
          clear s4
          go_wp2_with fail
          generalize (w3.setCell ⟨b, 37, none⟩ (.int .i64 pv)).setCell ⟨b, 38, none⟩ (.int .i64 0) = w4 at s4' ⊢
          have k4 := row1c (St.pick 2 s4'.drew)
          go_region_law (first
            | (go_simp; go_at_call 16; refine active_c (St.pick 7 s4'.drew) HN.out ?_; rintro a5 c5 w5 s5; rw [HNA.out]; have k5 := row1c (St.pick 4 s5))
            | (go_simp; go_at_call 44; refine send_c (to := pv) (m := { kindM 3 with high := hb2 }) ((OwnS.none0 (sz := 1) s5).perm [6, 0]) (by have := HL1.out; omega) ?_; rintro w6 s6))
          all_goals
            go_end0
            exact HK.out _ (St.drop (St.pick 1 (St.drop (St.pick 1 (OvA.close (O := { (O : OV) with D := drawL (O).D (q :: Q').length, asked := pv, since := 0, L := (O).L ++ [⟨pv, { kindM 3 with high := hb2 }⟩] }) (s6.perm [5, 0, 4, 4, 4, 2, 1, 1]))))))
    · have e1 : askO1 O = { O with since := O.since + 1, asked := -1 } := by unfold askO1; rw [if_neg h1]
      rw [e1] at HK HO1 HL1
      have hb : (O.asked != -1) = true := by simpa using h1
      have h2' : ¬ O.since + 1 < 4 := h2
      have s0 := ((St.pick 5 s).rowSet (i := 2) (by simp) (.int .i64 (O.since + 1))).rowSet (i := 1) (by simp) (.int .i64 (-1))
      have s0' : St W ((w.setCell ⟨b, 38, none⟩ (.int .i64 (O.since + 1))).setCell ⟨b, 37, none⟩ (.int .i64 (-1))) (row b 36 [.int .i64 O.ticks, .int .i64 (-1), .int .i64 (O.since + 1)] :: row b 0 [.pointer (some ⟨v, 0, none⟩)] :: NewsA b 1 O.L O.C :: row b 3 (ivs O.cfg) :: row b 23 [.pointer (some ⟨d, 0, none⟩)] :: row b 24 (ivs O.heard) :: ViewsA v O.V :: DiceA d O.D :: R) := s0
      have s1 := OvA.close (O := { O with since := O.since + 1, asked := -1 }) (s0'.perm [1, 1, 1, 1, 1, 0, 0, 0])
      clear e1 h1 h2 h s0 s0'
      go_enter Tryz.func49, Tryz.ntmps49
      go_wp2_with fail
      clear g36 g37 g38 f36 f37 f38
      generalize (w.setCell ⟨b, 38, none⟩ (.int .i64 (O.since + 1))).setCell ⟨b, 37, none⟩ (.int .i64 (-1)) = wz at s1 ⊢
      obtain ⟨Q, hQ⟩ : ∃ Q, wantedL ({ O with since := O.since + 1, asked := -1 }) = Q := ⟨_, rfl⟩
      have HQ := hid hQ
      have u := s1.drew
      obtain ⟨v2, t1⟩ := OvA.open s1
      have k1 := row1c (St.pick 3 t1.drew)
      have HN := hid (show ({ O with since := O.since + 1, asked := -1 }).V.a.length ≤ 4096 from Nat.le_trans HO1.out.v.na4 (by decide))
      cases Q with
      | nil =>
        have e2 : askO2 ({ O with since := O.since + 1, asked := -1 }) = { O with since := O.since + 1, asked := -1 } := by unfold askO2; rw [if_pos hQ]
        rw [e2] at HK
        clear e2 hQ
        go_region_law (first
          | (go_simp; go_at_call 91; refine wanted_c u HO1.out ?_; rintro ao n c w2 s2; rw [HQ.out] at s2; obtain ⟨v3, t2⟩ := OvA.open (St.pick 1 s2); have k2 := row1c (St.pick 3 t2))
          | (go_simp; go_at_call 90; refine pick_c (zs := []) (St.pick 7 t2) (fun w' s => OwnS.rd (St.pick 7 s)) ?_; rintro w3 s3; rw [if_pos rfl] at s3; rw [if_pos rfl]))
        all_goals
          go_wp2_with fail
          go_end0
          exact HK.out _ (St.drop (St.pick 1 (OvA.close (O := { O with since := O.since + 1, asked := -1 }) (s3.perm [1, 1, 1, 1, 1, 1, 1, 0]))))
      | cons q Q' =>
        have hne : wantedL ({ O with since := O.since + 1, asked := -1 }) ≠ [] := by rw [hQ]; exact List.cons_ne_nil _ _
        have e2 : askO2 ({ O with since := O.since + 1, asked := -1 }) = { ({ O with since := O.since + 1, asked := -1 } : OV) with D := drawL ({ O with since := O.since + 1, asked := -1 }).D (wantedL ({ O with since := O.since + 1, asked := -1 })).length, asked := pickV ({ O with since := O.since + 1, asked := -1 }).D (wantedL ({ O with since := O.since + 1, asked := -1 })), since := 0, L := ({ O with since := O.since + 1, asked := -1 }).L ++ [⟨pickV ({ O with since := O.since + 1, asked := -1 }).D (wantedL ({ O with since := O.since + 1, asked := -1 })), askM ({ O with since := O.since + 1, asked := -1 })⟩] } := by unfold askO2; rw [if_neg hne]
        rw [e2, hQ] at HK
        clear e2 hQ hne
        have hqn : ¬ (q :: Q' = []) := List.cons_ne_nil _ _
        have HQN := hid hqn
        clear hqn
        obtain ⟨pv, hpv⟩ : ∃ pv, pickV ({ O with since := O.since + 1, asked := -1 }).D (q :: Q') = pv := ⟨_, rfl⟩
        rw [hpv] at HK
        have HPV := hid hpv
        clear hpv
        obtain ⟨na, hna⟩ : ∃ na, ({ O with since := O.since + 1, asked := -1 }).V.a.length = na := ⟨_, rfl⟩
        have HNA := hid hna
        obtain ⟨hb2, hhb2⟩ : ∃ hb2, ((na : Int) == 0) = hb2 := ⟨_, rfl⟩
        have eM : askM ({ O with since := O.since + 1, asked := -1 }) = { kindM 3 with high := hb2 } := by unfold askM; rw [hna, hhb2]
        rw [eM] at HK
        clear eM hna
        go_region_law (first
          | (go_simp; go_at_call 91; refine wanted_c u HO1.out ?_; rintro ao n c w2 s2; rw [HQ.out] at s2; obtain ⟨v3, t2⟩ := OvA.open (St.pick 1 s2); have k2 := row1c (St.pick 3 t2))
          | (go_simp; go_at_call 90; refine pick_c (zs := q :: Q') (St.pick 7 t2) (fun w' s => OwnS.rd (St.pick 7 s)) ?_; rintro w3 s3; rw [if_neg HQN.out] at s3; rw [if_neg HQN.out, HPV.out]; obtain ⟨m36, m37, m38, l36, l37, l38⟩ := row3c (St.pick 6 s3)
             have s4 := ((St.pick 6 s3).rowSet (i := 1) (by simp) (.int .i64 pv)).rowSet (i := 2) (by simp) (.int .i64 0)))
        all_goals
          have s4' : St W ((w3.setCell ⟨b, 37, none⟩ (.int .i64 pv)).setCell ⟨b, 38, none⟩ (.int .i64 0)) (row b 36 [.int .i64 ({ O with since := O.since + 1, asked := -1 }).ticks, .int .i64 pv, .int .i64 0] :: DiceA d (drawL ({ O with since := O.since + 1, asked := -1 }).D (q :: Q').length) :: row b 0 [.pointer (some ⟨v3, 0, none⟩)] :: NewsA b 1 ({ O with since := O.since + 1, asked := -1 }).L ({ O with since := O.since + 1, asked := -1 }).C :: row b 3 (ivs ({ O with since := O.since + 1, asked := -1 }).cfg) :: row b 23 [.pointer (some ⟨d, 0, none⟩)] :: row b 24 (ivs ({ O with since := O.since + 1, asked := -1 }).heard) :: ViewsA v3 ({ O with since := O.since + 1, asked := -1 }).V :: OwnS 1 ao n c (ivs (q :: Q')) :: R) := s4
          clear s4
          go_wp2_with fail
          generalize (w3.setCell ⟨b, 37, none⟩ (.int .i64 pv)).setCell ⟨b, 38, none⟩ (.int .i64 0) = w4 at s4' ⊢
          have k4 := row1c (St.pick 2 s4'.drew)
          go_region_law (first
            | (go_simp; go_at_call 16; refine active_c (St.pick 7 s4'.drew) HN.out ?_; rintro a5 c5 w5 s5; rw [HNA.out]; have k5 := row1c (St.pick 4 s5))
            | (go_simp; go_at_call 44; refine send_c (to := pv) (m := { kindM 3 with high := hb2 }) ((OwnS.none0 (sz := 1) s5).perm [6, 0]) (by have := HL1.out; omega) ?_; rintro w6 s6))
          all_goals
            go_end0
            exact HK.out _ (St.drop (St.pick 1 (St.drop (St.pick 1 (OvA.close (O := { ({ O with since := O.since + 1, asked := -1 } : OV) with D := drawL ({ O with since := O.since + 1, asked := -1 }).D (q :: Q').length, asked := pv, since := 0, L := ({ O with since := O.since + 1, asked := -1 }).L ++ [⟨pv, { kindM 3 with high := hb2 }⟩] }) (s6.perm [5, 0, 4, 4, 4, 2, 1, 1]))))))


end

end Go.Proofs.YtbpdchaeakihkaaGreat

/- The overlay: beat. -/
namespace Go.Proofs.YtbpdchaeakihkaaGreat
open Go.RowKit Go.Qd

def beatsL (l : List Int) : List LetV := l.map fun p => ⟨p, kindM 9⟩
/-- The message that names. -/
def shuffleM (O : OV) (pa : Option Addr) (pn pc : Nat) (ps : List Int) : MsgV := { kindM 7 with peer := O.V.self, hops := O.cfg.getD 7 0, pa := pa, pn := pn, pc := pc, ps := ps }

section
variable {W w : World} {R : List HP} {post : Ending → World → Prop} {b d : Nat} {O : OV} {p : Int}

theorem beats_snoc {l : List Int} {i : Nat} (h : i < l.length) : beatsL (l.take (i + 1)) = beatsL (l.take i) ++ [⟨l[i], kindM 9⟩] := by
  unfold beatsL; rw [List.take_succ_eq_append_getElem h, List.map_append]; rfl

theorem cfg2 {c : List Int} (hc : c.length = 20) (s : St W w (row b 3 (ivs c) :: R)) : w.cell? ⟨b, 10, none⟩ = some (.int .i64 (c.getD 7 0)) ∧ w.cell? ⟨b, 12, none⟩ = some (.int .i64 (c.getD 9 0)) :=
  ⟨cfg_off (i := 7) s (by rw [hc]; omega), cfg_off (i := 9) s (by rw [hc]; omega)⟩

set_option maxRecDepth 100000 in
set_option maxHeartbeats 4000000 in
theorem beat_c (st : St W w (OvA b d O :: R)) (h : OOK O) (hL : O.L.length ≤ 4000)
    (K0 : O.V.a = [] → ∀ w', St W w' (OvA b d O :: R) → post (.returned (.tuple #[])) w')
    (K : O.V.a ≠ [] → ∀ pa pn pc w', St W w' (OvA b d { O with D := (someF (O.cfg.getD 9 0).toNat (drawL O.D O.V.a.length) O.V.p).1, L := O.L ++ beatsL O.V.a ++ [⟨pickV O.D O.V.a, shuffleM O pa pn pc (someF (O.cfg.getD 9 0).toNat (drawL O.D O.V.a.length) O.V.p).2.1⟩] } :: R) →
      post (.returned (.tuple #[])) w') :
    Calls Tryz.prog 50 #[.pointer (some ⟨b, 0, none⟩)] w post := by
  have HK := hid K; clear K
  have HK0 := hid K0; clear K0
  have HN := hid (show O.V.a.length ≤ 4096 from Nat.le_trans h.v.na4 (by decide))
  have hna : O.V.a.length ≤ 11 := by have := h.v.la; have := h.v.am; omega
  have HPL := hid (show O.V.p.length ≤ 11 by have := h.v.lp; have := h.v.pm; omega)
  have HC := hid h.cl
  obtain ⟨v, s⟩ := OvA.open st
  have k0 := row1c s
  obtain ⟨A, hA⟩ : ∃ A, O.V.a = A := ⟨_, rfl⟩
  have HA := hid hA
  rw [hA] at hna HK HK0
  obtain ⟨n, hn⟩ : ∃ n, A.length = n := ⟨_, rfl⟩
  have HNN := hid hn
  rw [hn] at hna
  clear h hA hn
  go_enter Tryz.func50, Tryz.ntmps50
  go_wp2_with (go_at_call 16; refine active_c (St.pick 6 s) HN.out ?_; rintro a5 c5 w5 s5; rw [HA.out, HNN.out]; rw [HA.out, HNN.out] at s5)
  go_loopw [14] (fun ii wr => ∃ i : Nat, i ≤ n ∧ ii = .int .i64 i ∧ St W wr (OwnS 1 a5 n c5 (ivs A) :: ViewsA v O.V :: row b 0 [.pointer (some ⟨v, 0, none⟩)] :: NewsA b 1 (O.L ++ beatsL (A.take i)) O.C :: row b 3 (ivs O.cfg) :: row b 23 [.pointer (some ⟨d, 0, none⟩)] :: row b 24 (ivs O.heard) :: row b 36 [.int .i64 O.ticks, .int .i64 O.asked, .int .i64 O.since] :: DiceA d O.D :: R)) (fun ii _ => n - (intOf ii).toNat)
  case atStart => exact ⟨0, Nat.zero_le _, rfl, by rw [List.take_zero, show beatsL [] = [] from rfl, List.append_nil]; exact s5⟩
  case round =>
    obtain ⟨i, hi, rfl, sr⟩ := hrel
    by_cases hlt : i < n
    · have rd := OwnS.rd sr
      obtain ⟨g3, o3, rfl⟩ := rd.addr (by omega)
      have hiA : i < A.length := by rw [HNN.out]; exact hlt
      have ci := rd.at (ivs_get hiA)
      have hsn := beats_snoc hiA
      obtain ⟨q, hq⟩ : ∃ q, A[i] = q := ⟨_, rfl⟩
      rw [hq] at ci hsn
      have HS := hid hsn
      have hbl : (O.L ++ beatsL (A.take i)).length ≤ 4096 := by rw [List.length_append]; simp [beatsL]; omega
      clear hq hsn rd
      have hi2 : (i : Int) < (n : Int) := by omega
      go_wp2_with (go_at_call 44; refine send_c (to := q) (m := kindM 9) ((OwnS.none0 (sz := 1) sr).perm [4, 0]) hbl ?_; rintro w6 s6)
      go_roundw
      case rel => exact ⟨i + 1, by omega, by go_num, by rw [HS.out, ← List.append_assoc]; exact s6.perm [1, 1, 1, 0]⟩
      case measure => simp [intOf]; omega
    · have hie : i = n := by omega
      subst hie
      rw [List.take_of_length_le (by rw [HNN.out]; exact Nat.le_refl _)] at sr
      have k5 := row1c (St.pick 5 sr)
      have k6 := row1c (St.pick 2 sr)
      cases A with
      | nil =>
        go_wp2_with (go_at_call 90; refine pick_c (zs := []) (St.pick 8 sr) (fun w' s => OwnS.rd s) ?_; rintro w7 s7; rw [if_pos rfl] at s7; rw [if_pos rfl])
        go_end0
        rw [show beatsL [] = [] from rfl, List.append_nil] at s7
        have t := OvA.close (O := O) (v := v) (s7.perm [3, 3, 3, 3, 3, 3, 2, 0])
        exact HK0.out trivial _ (St.drop (St.pick 1 t))
      | cons q A' =>
        have hqn : ¬ (q :: A' = []) := List.cons_ne_nil _ _
        have HQN := hid hqn
        clear hqn
        obtain ⟨pv, hpv⟩ : ∃ pv, pickV O.D (q :: A') = pv := ⟨_, rfl⟩
        rw [hpv] at HK
        have HPV := hid hpv
        clear hpv
        go_wp2_with (go_at_call 90; refine pick_c (zs := q :: A') (St.pick 8 sr) (fun w' s => OwnS.rd s) ?_; rintro w7 s7; rw [if_neg HQN.out] at s7; rw [if_neg HQN.out, HPV.out])
        have u := s7.drew
        obtain ⟨hp, hhp⟩ : ∃ hp, O.cfg.getD 7 0 = hp := ⟨_, rfl⟩
        have HHP := hid hhp
        obtain ⟨kk, hkk⟩ : ∃ kk, O.cfg.getD 9 0 = kk := ⟨_, rfl⟩
        have HKK := hid hkk
        rw [hkk] at HK
        simp only [shuffleM, hhp] at HK
        clear hhp hkk
        have f := fun (w' : World) (R1 R2 R3 : List HP) (s1 : St W w' (row b 0 [.pointer (some ⟨v, 0, none⟩)] :: R1)) (s2 : St W w' (row b 23 [.pointer (some ⟨d, 0, none⟩)] :: R2)) (s3 : St W w' (row b 3 (ivs O.cfg) :: R3)) =>
          show w'.cell? ⟨b, 0, none⟩ = some (.pointer (some ⟨v, 0, none⟩)) ∧ w'.cell? ⟨b, 23, none⟩ = some (.pointer (some ⟨d, 0, none⟩)) ∧ w'.cell? ⟨b, 10, none⟩ = some (.int .i64 hp) ∧ w'.cell? ⟨b, 12, none⟩ = some (.int .i64 kk) from
            ⟨row1c s1, row1c s2, by have := (cfg2 HC.out s3).1; rwa [HHP.out] at this, by have := (cfg2 HC.out s3).2; rwa [HKK.out] at this⟩
        have FF := hid f
        have gA := f _ _ _ _ (St.pick 3 u) (St.pick 6 u) (St.pick 5 u)
        have hpb : O.V.p.length * 8 ≤ 140737488355328 - 8 := by have := HPL.out; omega
        have hpc : O.V.p.length ≤ 4096 := by have := HPL.out; omega
        have hLL : (O.L ++ beatsL (q :: A')).length ≤ 4096 := by rw [List.length_append]; have := HNN.out; simp only [beatsL, List.length_map]; omega
        have HB := hid (And.intro hpb (And.intro hpc hLL))
        clear f hpb hpc hLL k5 k6
        go_region_held3 (fun w' => w'.cell? ⟨b, 0, none⟩ = some (.pointer (some ⟨v, 0, none⟩)) ∧ w'.cell? ⟨b, 23, none⟩ = some (.pointer (some ⟨d, 0, none⟩)) ∧ w'.cell? ⟨b, 10, none⟩ = some (.int .i64 hp) ∧ w'.cell? ⟨b, 12, none⟩ = some (.int .i64 kk))
          (first
            | with_reducible exact gD
            | with_reducible exact gC
            | with_reducible exact gB
            | with_reducible exact gA)
          (first
            | (go_at_call 84; refine oself_c (St.pick 2 u) ?_)
            | (go_at_call 21; refine passive_c (St.pick 2 u) HB.out.2.1 ?_; rintro a8 c8 w8 s8; have gB := FF.out _ _ _ _ (St.pick 4 s8) (St.pick 7 s8) (St.pick 6 s8))
            | (go_at_call 92; refine some_c (St.pick 2 s8) (OwnS.rd s8) HB.out.1 ?_; rintro a9 n9 c9 w9 s9; have gC := FF.out _ _ _ _ (St.pick 5 s9) (St.pick 8 s9) (St.pick 7 s9))
            | (go_at_call 44; refine send_c (to := pv) (m := { kindM 7 with peer := O.V.self, hops := hp, pa := a9, pn := n9, pc := c9, ps := (someF kk.toNat (drawL O.D (q :: A').length) O.V.p).2.1 }) (s9.perm [6, 0]) HB.out.2.2 ?_; rintro wA sA; have gD := FF.out _ _ _ _ (St.pick 5 sA) (St.pick 7 sA) (St.pick 6 sA)))
        all_goals
          go_wp2_with fail
          go_end0
          have t := OvA.close (O := { O with D := (someF kk.toNat (drawL O.D (q :: A').length) O.V.p).1, L := O.L ++ beatsL (q :: A') ++ [⟨pv, { kindM 7 with peer := O.V.self, hops := hp, pa := a9, pn := n9, pc := c9, ps := (someF kk.toNat (drawL O.D (q :: A').length) O.V.p).2.1 }⟩] }) (v := v) (sA.perm [5, 0, 4, 4, 4, 4, 2, 0])
          exact HK.out (by first | trivial | exact List.cons_ne_nil _ _) a9 n9 c9 _ (St.drop (St.pick 1 (St.drop (St.pick 1 t))))

end

end Go.Proofs.YtbpdchaeakihkaaGreat

/- The overlay: Tick. -/
namespace Go.Proofs.YtbpdchaeakihkaaGreat
open Go.RowKit Go.Qd

def countO (O : OV) (p : Int) : OV := { O with heard := O.heard.set p.toNat (O.heard.getD p.toNat 0 + 1) }
def stepS (O : OV) (p : Int) : OV := if O.cfg.getD 11 0 < (countO O p).heard.getD p.toNat 0 then lowerO (countO O p) p else countO O p
def silentO (O : OV) (A : List Int) : OV := A.foldl stepS O

theorem silent_snoc (O : OV) {A : List Int} {i : Nat} (h : i < A.length) : silentO O (A.take (i + 1)) = stepS (silentO O (A.take i)) A[i] := by
  unfold silentO; rw [List.take_succ_eq_append_getElem h, List.foldl_append]; rfl

/-- What is kept through the silent ones' loop. -/
structure SOK (O : OV) (m : Int) (k : Nat) : Prop where
  ok : OOK O
  hh : ∀ j : Nat, 0 ≤ O.heard.getD j 0 ∧ O.heard.getD j 0 ≤ m
  cl : O.C.length ≤ k
  ll : O.L = []

theorem SOK.count {O : OV} {m : Int} {k : Nat} (h : SOK O m k) (p : Int) : SOK (countO O p) (m + 1) k := by
  refine ⟨⟨h.ok.v, h.ok.cl, by show (O.heard.set _ _).length = 12; rw [List.length_set]; exact h.ok.hl, h.ok.r⟩, fun j => ?_, h.cl, h.ll⟩
  show 0 ≤ (O.heard.set p.toNat _).getD j 0 ∧ (O.heard.set p.toNat _).getD j 0 ≤ m + 1
  have h1 := h.hh j
  have h2 := h.hh p.toNat
  by_cases e : p.toNat = j
  · by_cases hl : j < O.heard.length
    · have : (O.heard.set p.toNat (O.heard.getD p.toNat 0 + 1)).getD j 0 = O.heard.getD p.toNat 0 + 1 := by subst e; simp [hl]
      rw [this]; omega
    · have : (O.heard.set p.toNat (O.heard.getD p.toNat 0 + 1)).getD j 0 = 0 := by simp [hl]
      rw [this]; omega
  · have : (O.heard.set p.toNat (O.heard.getD p.toNat 0 + 1)).getD j 0 = O.heard.getD j 0 := by simp [e]
    rw [this]; omega
theorem SOK.lower {O : OV} {m : Int} {k : Nat} (h : SOK O m k) (p : Int) : SOK (lowerO O p) m (k + 1) := by
  refine ⟨h.ok.lower p, ?_, ?_, ?_⟩
  · unfold lowerO; split <;> exact h.hh
  · unfold lowerO; split
    · show (O.C ++ [(p, false)]).length ≤ k + 1; have := h.cl; simp; omega
    · have := h.cl; omega
  · unfold lowerO; split <;> exact h.ll
theorem SOK.step {O : OV} {m : Int} {k : Nat} (h : SOK O m k) (p : Int) : SOK (stepS O p) (m + 1) (k + 1) := by
  unfold stepS; split
  · exact (h.count p).lower p
  · have := h.count p; exact ⟨this.ok, this.hh, by have := this.cl; omega, this.ll⟩
theorem SOK.silent {O : OV} {m : Int} {k : Nat} (h : SOK O m k) (A : List Int) : SOK (silentO O A) (m + A.length) (k + A.length) := by
  induction A generalizing O m k with
  | nil => simpa [silentO] using h
  | cons p A ih =>
    have := ih (h.step p)
    have e1 : m + 1 + (A.length : Int) = m + ((p :: A).length : Int) := by simp; omega
    have e2 : k + 1 + A.length = k + (p :: A).length := by simp; omega
    rw [e1, e2] at this
    exact this

section
variable {W w : World} {R : List HP} {post : Ending → World → Prop} {b d : Nat} {O : OV} {p : Int}

/-- The loop's round's regions: a neighbour's ticks are counted. -/
theorem heard_at {j : Nat} (hj : j < 12) (hl : O.heard.length = 12) (s : St W w (row b 24 (ivs O.heard) :: R)) :
    w.cell? ⟨b, 24 + j, none⟩ = some (.int .i64 (O.heard.getD j 0)) ∧ w.frozen? ⟨b, 24 + j, none⟩ = false ∧ ∀ z : Int, St W (w.setCell ⟨b, 24 + j, none⟩ (.int .i64 z)) (row b 24 (ivs (O.heard.set j z)) :: R) :=
  ⟨cfg_off s (by omega), s.rowFree (by rw [ivs_length]; omega), fun z => by
    have := s.rowSet (i := j) (by rw [ivs_length]; omega) (.int .i64 z)
    rwa [show (ivs O.heard).set j (.int .i64 z) = ivs (O.heard.set j z) from by simp [ivs, List.map_set]] at this⟩

/-- Behind the silent ones and the asking. -/
def tick1 (O : OV) : OV := askO (silentO { O with ticks := O.ticks + 1 } O.V.a)

theorem silent_keep (A : List Int) : ∀ O : OV, (silentO O A).since = O.since ∧ (silentO O A).ticks = O.ticks ∧ (silentO O A).cfg = O.cfg ∧ (silentO O A).asked = O.asked := by
  induction A with
  | nil => exact fun O => ⟨rfl, rfl, rfl, rfl⟩
  | cons p A ih =>
    intro O
    have h : (stepS O p).since = O.since ∧ (stepS O p).ticks = O.ticks ∧ (stepS O p).cfg = O.cfg ∧ (stepS O p).asked = O.asked := by
      unfold stepS lowerO countO
      split
      · split <;> exact ⟨rfl, rfl, rfl, rfl⟩
      · exact ⟨rfl, rfl, rfl, rfl⟩
    have := ih (stepS O p)
    exact ⟨this.1.trans h.1, this.2.1.trans h.2.1, this.2.2.1.trans h.2.2.1, this.2.2.2.trans h.2.2.2⟩
theorem ask_keep (O : OV) : (askO O).ticks = O.ticks ∧ (askO O).cfg = O.cfg ∧ (askO O).V = O.V ∧ (askO O).heard = O.heard ∧ (askO O).C = O.C ∧ (askO O).L.length ≤ O.L.length + 1 := by
  unfold askO
  split
  · exact ⟨rfl, rfl, rfl, rfl, rfl, Nat.le_succ _⟩
  · have e : (askO1 O).ticks = O.ticks ∧ (askO1 O).cfg = O.cfg ∧ (askO1 O).V = O.V ∧ (askO1 O).heard = O.heard ∧ (askO1 O).C = O.C ∧ (askO1 O).L = O.L := by
      unfold askO1; split <;> exact ⟨rfl, rfl, rfl, rfl, rfl, rfl⟩
    obtain ⟨e1, e2, e3, e4, e5, e6⟩ := e
    unfold askO2
    split
    · exact ⟨e1, e2, e3, e4, e5, by rw [e6]; exact Nat.le_succ _⟩
    · exact ⟨e1, e2, e3, e4, e5, by show ((askO1 O).L ++ [_]).length ≤ _; rw [List.length_append, e6]; exact Nat.le_refl _⟩

/-- Behind the beat, if there is one. -/
def beatO (T : OV) (pa : Option Addr) (pn pc : Nat) : OV := if T.V.a = [] then T else
  { T with D := (someF (T.cfg.getD 9 0).toNat (drawL T.D T.V.a.length) T.V.p).1, L := T.L ++ beatsL T.V.a ++ [⟨pickV T.D T.V.a, shuffleM T pa pn pc (someF (T.cfg.getD 9 0).toNat (drawL T.D T.V.a.length) T.V.p).2.1⟩] }
def tickR (O : OV) (pa : Option Addr) (pn pc : Nat) : OV := if (O.ticks + 1) % O.cfg.getD 10 0 = 0 then beatO (tick1 O) pa pn pc else tick1 O

set_option maxRecDepth 100000 in
set_option maxHeartbeats 4000000 in
theorem tick_c {post : Ending → World → Prop} (st : St W w (OvA b d O :: R)) (h : SOK O 1000000 0) (ht : 0 ≤ O.ticks ∧ O.ticks ≤ 1000000) (hs : 0 ≤ O.since ∧ O.since ≤ 4)
    (K : ∀ pa pn pc la ln lc ca cn cc w', St W w' (OvA b d (freshO (tickR O pa pn pc)) :: OwnS 13 la ln lc (letC (tickR O pa pn pc).L) :: OwnS 2 ca cn cc (chC (tickR O pa pn pc).C) :: sepL ((tickR O pa pn pc).L.map LetV.own) :: R) →
      post (.returned (.tuple #[.slice la ln lc, .slice ca cn cc])) w') :
    Calls Tryz.prog 18 #[.pointer (some ⟨b, 0, none⟩)] w post := by
  have HK := hid K; clear K
  have HH := hid h
  have hbt : 1 ≤ O.cfg.getD 10 0 := by have := fine_lo (rightB_iff.1 h.ok.r 10 (by decide)); simpa [leastF] using this
  have hbu : O.cfg.getD 10 0 ≤ 16 := by have := fine_hi (rightB_iff.1 h.ok.r 10 (by decide)); simpa [mostF] using this
  have hna : O.V.a.length ≤ 11 := by have := h.ok.v.la; have := h.ok.v.am; omega
  have HNO := hid h.ok.v.na
  obtain ⟨v, s⟩ := OvA.open st
  obtain ⟨g36, g37, g38, f36, f37, f38⟩ := row3c (St.pick 5 s)
  have hw : IntKind.i64.wrap (O.ticks + 1) = O.ticks + 1 := IntWalk.i64_in _ (by omega)
  have s1 := (St.pick 5 s).rowSet (i := 0) (by simp) (.int .i64 (O.ticks + 1))
  have s1' : St W (w.setCell ⟨b, 36, none⟩ (.int .i64 (O.ticks + 1))) (row b 36 [.int .i64 (O.ticks + 1), .int .i64 O.asked, .int .i64 O.since] :: row b 0 [.pointer (some ⟨v, 0, none⟩)] :: NewsA b 1 O.L O.C :: row b 3 (ivs O.cfg) :: row b 23 [.pointer (some ⟨d, 0, none⟩)] :: row b 24 (ivs O.heard) :: ViewsA v O.V :: DiceA d O.D :: R) := s1
  have k0 := row1c (St.pick 1 s1')
  obtain ⟨A, hA⟩ : ∃ A, O.V.a = A := ⟨_, rfl⟩
  have HA := hid hA
  obtain ⟨n, hn⟩ : ∃ n, A.length = n := ⟨_, rfl⟩
  have HNN := hid hn
  rw [hA, hn] at hna
  rw [hA] at HNO
  clear h hA hn s1
  go_enter Tryz.func18, Tryz.ntmps18
  go_wp2_with (go_at_call 16; refine active_c (St.pick 6 s1') (by rw [HA.out, HNN.out]; omega) ?_; rintro a5 c5 w5 s5; rw [HA.out, HNN.out]; rw [HA.out, HNN.out] at s5)
  have s6 := OvA.close (O := { O with ticks := O.ticks + 1 }) (v := v) (s5.perm [3, 3, 3, 3, 3, 2, 1, 1])
  have s7 := St.pick 1 s6
  go_loopw [19] (fun ii wr => ∃ i : Nat, i ≤ n ∧ ii = .int .i64 i ∧ St W wr (OwnS 1 a5 n c5 (ivs A) :: OvA b d (silentO { O with ticks := O.ticks + 1 } (A.take i)) :: R)) (fun ii _ => n - (intOf ii).toNat)
  case atStart => exact ⟨0, Nat.zero_le _, rfl, s7⟩
  case round =>
    obtain ⟨i, hi, rfl, sr⟩ := hrel
    by_cases hlt : i < n
    · have rd := OwnS.rd sr
      obtain ⟨g3, o3, rfl⟩ := rd.addr (by omega)
      have hiA : i < A.length := by rw [HNN.out]; exact hlt
      have ci := rd.at (ivs_get hiA)
      have hsn := silent_snoc { O with ticks := O.ticks + 1 } hiA
      have hqn := (HNO.out _ (List.getElem_mem hiA)).1
      have hS : SOK (silentO { O with ticks := O.ticks + 1 } (A.take i)) (1000000 + (A.take i).length) (0 + (A.take i).length) := SOK.silent (O := { O with ticks := O.ticks + 1 }) ⟨⟨HH.out.ok.v, HH.out.ok.cl, HH.out.ok.hl, HH.out.ok.r⟩, HH.out.hh, HH.out.cl, HH.out.ll⟩ _
      obtain ⟨q, hq⟩ : ∃ q, A[i] = q := ⟨_, rfl⟩
      rw [hq] at ci hsn hqn
      obtain ⟨q0, q1⟩ := nodeB_iff.1 hqn
      obtain ⟨j, rfl⟩ := Int.eq_ofNat_of_zero_le q0
      have hj : j < 12 := by omega
      have hj2 : (j : Int) < 12 := by omega
      obtain ⟨P, hP⟩ : ∃ P, silentO { O with ticks := O.ticks + 1 } (A.take i) = P := ⟨_, rfl⟩
      rw [hP] at sr hS hsn
      have hlen : (A.take i).length = i := by simp; omega
      rw [hlen] at hS
      have HS := hid hS
      have HSN := hid hsn
      obtain ⟨v2, t⟩ := OvA.open (St.pick 1 sr)
      obtain ⟨z, hz⟩ : ∃ z, P.heard.getD j 0 = z := ⟨_, rfl⟩
      have hzb := hS.hh j
      rw [hz] at hzb
      obtain ⟨c1, c2, c3⟩ := heard_at (O := P) hj hS.ok.hl (St.pick 4 t).drew
      rw [hz] at c1
      have hw2 : IntKind.i64.wrap (z + 1) = z + 1 := IntWalk.i64_in _ (by omega)
      have hi2 : (i : Int) < (n : Int) := by omega
      have HZ := hid hz
      clear hq hqn hP hS hsn rd hz hlen
      go_wp2_with fail
      go_still_tail 10, (by kernel_rfl)
      change wpList _ _ _ _ _ wr.drew
      have u := c3 (z + 1)
      have hl12 := HS.out.ok.hl
      have hcl := HS.out.ok.cl
      obtain ⟨sil, hsil⟩ : ∃ sil, P.cfg.getD 11 0 = sil := ⟨_, rfl⟩
      have d1 := cfg_off u (i := j) (by rw [List.length_set, hl12]; exact hj)
      have d1' : (wr.drew.setCell ⟨b, 24 + j, none⟩ (.int .i64 (z + 1))).cell? ⟨b, 24 + j, none⟩ = some (.int .i64 (z + 1)) := by rw [d1]; simp [hl12, hj]
      have d2 := cfg_off (St.pick 3 u) (i := 11) (by rw [hcl]; omega)
      rw [hsil] at d2
      have d2' : (wr.drew.setCell ⟨b, 24 + j, none⟩ (.int .i64 (z + 1))).cell? ⟨b, 14, none⟩ = some (.int .i64 sil) := d2
      have ec : countO P j = { P with heard := P.heard.set j (z + 1) } := by unfold countO; rw [show ((j : Int)).toNat = j from rfl, HZ.out]
      have eh : (countO P j).heard.getD ((j : Int)).toNat 0 = z + 1 := by rw [ec, show ((j : Int)).toNat = j from rfl]; simp [hl12, hj]
      have s9 := OvA.close (O := { P with heard := P.heard.set j (z + 1) }) (v := v2) (u.perm [1, 1, 1, 1, 0, 0, 0, 0])
      rw [← ec] at s9
      have estep : stepS P j = if sil < z + 1 then lowerO (countO P j) j else countO P j := by unfold stepS; rw [eh, hsil]
      have HE := hid estep
      have HOK2 := hid (HS.out.count j).ok
      have hC4 : (countO P j).C.length ≤ 4000 := by have := (HS.out.count j).cl; omega
      clear d1 d2 ec eh estep hsil u c3 hl12 hcl t
      generalize hW : wr.drew = wd at c1 c2 d1' d2' s9 ⊢
      clear hW
      go_wp2_with fail
      generalize wd.setCell ⟨b, 24 + j, none⟩ (.int .i64 (z + 1)) = w9 at d1' d2' s9 ⊢
      go_quiet (fail)
      have sA := s9.drewN nq
      generalize w9.drewN nq = wA at sA ⊢
      by_cases hsl : sil < z + 1
      · go_wp2_with (go_at_call 48; refine olower_c sA HOK2.out hC4 ?_; rintro wB sB)
        go_roundw
        case rel => exact ⟨i + 1, by omega, by go_num, by rw [HSN.out, HE.out, if_pos hsl]; exact St.pick 1 sB⟩
        case measure => simp [intOf]; omega
      · go_wp2_with fail
        go_roundw
        case rel => exact ⟨i + 1, by omega, by go_num, by rw [HSN.out, HE.out, if_neg hsl]; exact St.pick 1 sA⟩
        case measure => simp [intOf]; omega
    · have hie : i = n := by omega
      subst hie
      rw [List.take_of_length_le (by rw [HNN.out]; exact Nat.le_refl _)] at sr
      have hS : SOK (silentO { O with ticks := O.ticks + 1 } A) (1000000 + A.length) (0 + A.length) := SOK.silent (O := { O with ticks := O.ticks + 1 }) ⟨⟨HH.out.ok.v, HH.out.ok.cl, HH.out.ok.hl, HH.out.ok.r⟩, HH.out.hh, HH.out.cl, HH.out.ll⟩ _
      obtain ⟨m1, m2, m3, m4⟩ := silent_keep A { O with ticks := O.ticks + 1 }
      have eT : tick1 O = askO (silentO { O with ticks := O.ticks + 1 } A) := by unfold tick1; rw [HA.out]
      obtain ⟨P, hP⟩ : ∃ P, silentO { O with ticks := O.ticks + 1 } A = P := ⟨_, rfl⟩
      rw [hP] at sr hS m1 m2 m3 m4 eT
      obtain ⟨n1, n2, n3, n4, n5, n6⟩ := ask_keep P
      obtain ⟨T, hT⟩ : ∃ T, askO P = T := ⟨_, rfl⟩
      rw [hT] at n1 n2 n3 n4 n5 n6 eT
      have hTO : OOK T := ⟨by rw [n3]; exact hS.ok.v, by rw [n2]; exact hS.ok.cl, by rw [n4]; exact hS.ok.hl, by rw [n2]; exact hS.ok.r⟩
      have hTL : T.L.length ≤ 4000 := by rw [hS.ll] at n6; simp at n6; omega
      have hTt : T.ticks = O.ticks + 1 := n1.trans m2
      have hTc : T.cfg = O.cfg := n2.trans m3
      have HTO := hid hTO; have HTL := hid hTL; have HTT := hid hTt; have HTC := hid hTc; have HET := hid eT; have HTE := hid hT; have HPS := hid hS; have HM1 := hid m1
      clear hP hS m1 m2 m3 m4 eT n1 n2 n3 n4 n5 n6 hTO hTL hTt hTc hT
      go_wp2_with (go_at_call 49; refine ask_c sr.drop HPS.out.ok (by rw [HM1.out]; exact hs) (by rw [HPS.out.ll]; exact Nat.zero_le _) ?_; rintro w6 s6; rw [HTE.out] at s6; obtain ⟨v6, t6⟩ := OvA.open s6; obtain ⟨r36, _, _, _, _, _⟩ := row3c (St.pick 5 t6); rw [HTT.out] at r36
                   have rb0 := cfg_off (St.pick 2 t6) (i := 10) (by rw [HTC.out, HH.out.ok.cl]; omega); rw [HTC.out] at rb0)
      have rb : w6.cell? ⟨b, 13, none⟩ = some (.int .i64 (O.cfg.getD 10 0)) := rb0
      clear rb0
      obtain ⟨bt, hbe⟩ : ∃ bt, O.cfg.getD 10 0 = bt := ⟨_, rfl⟩
      rw [hbe] at rb hbt hbu
      have HBE := hid hbe
      clear hbe
      obtain ⟨tk, htk⟩ : ∃ tk, O.ticks + 1 = tk := ⟨_, rfl⟩
      have htk0 : 0 ≤ tk ∧ tk ≤ 1000001 := by omega
      have HTK := hid htk
      rw [htk] at r36
      have hne : bt ≠ 0 := by omega
      have htm : tk.tmod bt = tk % bt := Int.tmod_eq_emod_of_nonneg htk0.1
      have hlo : 0 ≤ tk % bt := Int.emod_nonneg _ hne
      have hup : tk % bt < bt := Int.emod_lt_of_pos _ (by omega)
      have hwm : IntKind.i64.wrap (tk % bt) = tk % bt := IntWalk.i64_in _ (by omega)
      have hnb : (bt == 0) = false := by simpa using hne
      go_quiet (fail)
      have s7 := s6.drewN nq
      generalize w6.drewN nq = w7 at s7 ⊢
      by_cases hz : tk % bt = 0
      · have hzb : (tk % bt == 0) = true := by simp [hz]
        have HZ := hid hz
        clear hz
        go_wp2_with (first
          | (go_at_call 50; refine beat_c s7 HTO.out HTL.out (fun h0 w8 s8 => ?_) (fun h1 pa pn pc w8 s8 => ?_))
          | (go_at_call 45; refine told_c s8 ?_; rintro la ln lc ca cn cc w9 s9))
        · have e : tickR O none 0 0 = T := by unfold tickR; rw [HTK.out, HBE.out, if_pos HZ.out, HET.out]; unfold beatO; rw [if_pos h0]
          exact HK.out none 0 0 _ _ _ _ _ _ _ (by rw [e]; exact s9)
        · have e : tickR O pa pn pc = { T with D := (someF (T.cfg.getD 9 0).toNat (drawL T.D T.V.a.length) T.V.p).1, L := T.L ++ beatsL T.V.a ++ [⟨pickV T.D T.V.a, shuffleM T pa pn pc (someF (T.cfg.getD 9 0).toNat (drawL T.D T.V.a.length) T.V.p).2.1⟩] } := by
            unfold tickR; rw [HTK.out, HBE.out, if_pos HZ.out, HET.out]; unfold beatO; rw [if_neg h1]
          exact HK.out pa pn pc _ _ _ _ _ _ _ (by rw [e]; exact s9)
      · have hzb : (tk % bt == 0) = false := by simp [hz]
        have HZ := hid hz
        clear hz
        go_wp2_with (go_at_call 45; refine told_c s7 ?_; rintro la ln lc ca cn cc w9 s9)
        have e : tickR O none 0 0 = T := by unfold tickR; rw [HTK.out, HBE.out, if_neg HZ.out, HET.out]
        exact HK.out none 0 0 _ _ _ _ _ _ _ (by rw [e]; exact s9)

end

end Go.Proofs.YtbpdchaeakihkaaGreat

/- The overlay: New, Asked; holds. -/
namespace Go.Proofs.YtbpdchaeakihkaaGreat
open Go.RowKit Go.Qd

def newO (c : List Int) (self : Int) (D : List Int) : OV := ⟨⟨self, [], c.getD 5 0, [], c.getD 6 0⟩, [], [], c, D, List.replicate 12 0, 0, -1, 0⟩
def newC (c : List Int) (v d : Nat) : List Value := [.pointer (some ⟨v, 0, none⟩), .slice none 0 0, .slice none 0 0] ++ ivs c ++ [.pointer (some ⟨d, 0, none⟩)] ++ ivs (List.replicate 12 0) ++ [.int .i64 0, .int .i64 (-1), .int .i64 0]

theorem cfg_views {c : List Int} (_hc : c.length = 20) (hr : rightB c = true) : (1 ≤ c.getD 5 0 ∧ c.getD 5 0 < 12) ∧ (1 ≤ c.getD 6 0 ∧ c.getD 6 0 < 12) ∧ (2 ≤ c.getD 0 0 ∧ c.getD 0 0 ≤ 12) := by
  have a1 := fine_lo (rightB_iff.1 hr 5 (by decide))
  have a2 := fine_hi (rightB_iff.1 hr 5 (by decide))
  have b1 := fine_lo (rightB_iff.1 hr 6 (by decide))
  have b2 := fine_hi (rightB_iff.1 hr 6 (by decide))
  have d1 := fine_lo (rightB_iff.1 hr 0 (by decide))
  have d2 := fine_hi (rightB_iff.1 hr 0 (by decide))
  simp [leastF, mostF] at a1 a2 b1 b2 d1 d2
  simp [a1, b1, d1, d2]
  omega

section
variable {W w : World} {R : List HP} {post : Ending → World → Prop} {b d : Nat} {O : OV} {p self : Int} {c D : List Int}

def build46G (x y z e : Value) : Sem Value := Instr.build 46 #[(0, x), (2, y), (3, z), (6, e)]
theorem execOp_build46 (ρ : Operand → Value) (dst : Option Tmp) (x y z e : Operand) (ty : TypeId) (pos : String) (after : Array Edge) (guard : Option (Nat × Bool)) :
    execOp ρ { dst, op := .build 46 #[(0, x), (2, y), (3, z), (6, e)], type := ty, pos, after, guard } = (do pure (.value (← build46G (ρ x) (ρ y) (ρ z) (ρ e)))) := by simp [execOp, build46G]
theorem run_build46 (v d : Nat) (hc : c.length = 20) (w : World) :
    (build46G (.pointer (some ⟨v, 0, none⟩)) (.agg (ivs c).toArray) (.pointer (some ⟨d, 0, none⟩)) (.int .i64 (-1))).run Tryz.prog w = .ok (.agg (newC c v d).toArray) w := by
  obtain ⟨x0, x1, x2, x3, x4, x5, x6, x7, x8, x9, x10, x11, x12, x13, x14, x15, x16, x17, x18, x19, rfl⟩ := list20 hc
  kernel_rfl
attribute [local go_sem ↓] execOp_build46

theorem newC_split {v : Nat} (hc : c.length = 20) (s : St W w (row b 0 (newC c v d) :: R)) :
    St W w (row b 0 [.pointer (some ⟨v, 0, none⟩)] :: row b 1 [.slice none 0 0, .slice none 0 0] :: row b 3 (ivs c) :: row b 23 [.pointer (some ⟨d, 0, none⟩)] :: row b 24 (ivs (List.replicate 12 0)) :: row b 36 [.int .i64 0, .int .i64 (-1), .int .i64 0] :: R) := by
  have e : newC c v d = [.pointer (some ⟨v, 0, none⟩)] ++ ([.slice none 0 0, .slice none 0 0] ++ (ivs c ++ ([.pointer (some ⟨d, 0, none⟩)] ++ (ivs (List.replicate 12 0) ++ [.int .i64 0, .int .i64 (-1), .int .i64 0])))) := by simp [newC]
  have hl : (ivs c).length = 20 := by rw [ivs_length]; exact hc
  rw [e] at s
  have s1 := St.rowAppend.1 s
  have s2 := St.rowAppend.1 (St.pick 1 s1)
  have s3 := St.rowAppend.1 (St.pick 1 s2)
  rw [hl] at s3
  have s4 := St.rowAppend.1 (St.pick 1 s3)
  have s5 := St.rowAppend.1 (St.pick 1 s4)
  exact s5.perm [5, 4, 3, 2]

set_option maxRecDepth 100000 in
set_option maxHeartbeats 4000000 in
theorem onew_c (st : St W w (DiceA d D :: R)) (hc : c.length = 20) (hr : rightB c = true) (hs : 0 ≤ self ∧ self < c.getD 0 0)
    (K : ∀ b w', St W w' (OvA b d (newO c self D) :: R) → post (.returned (.tuple #[.pointer (some ⟨b, 0, none⟩), .int .i64 0])) w') :
    Calls Tryz.prog 12 #[.int .i64 self, .agg (ivs c).toArray, .pointer (some ⟨d, 0, none⟩)] w post := by
  have HK := hid K; clear K
  have HC := hid hc; have HR := hid hr
  obtain ⟨h5, h6, h0⟩ := cfg_views hc hr
  have hno : nodeB self = true := by rw [nodeB_iff]; omega
  have HV := hid (And.intro hno (And.intro h5 h6))
  have HL5 : 5 < c.length := by omega
  have HL6 : 6 < c.length := by omega
  have HL0 : 0 < c.length := by omega
  have HLL := hid (And.intro HL0 (And.intro HL5 HL6))
  obtain ⟨s0, s1⟩ := hs
  obtain ⟨n, hn⟩ : ∃ n, c.getD 0 0 = n := ⟨_, rfl⟩
  obtain ⟨am, ham⟩ : ∃ n, c.getD 5 0 = n := ⟨_, rfl⟩
  obtain ⟨pm, hpm⟩ : ∃ n, c.getD 6 0 = n := ⟨_, rfl⟩
  have HN := hid hn; have HAM := hid ham; have HPM := hid hpm
  rw [hn] at s1
  rw [ham, hpm] at HV
  have g0 : decide (self < 0) = false := by simp; omega
  have g1 : decide (n ≤ self) = false := by simp; omega
  clear hc hr h5 h6 h0 hno HL5 HL6 HL0 hn ham hpm
  go_enter Tryz.func12, Tryz.ntmps12
  go_wp2_with (first
    | (refine wpl_boxA (vs := ivs c) rfl (.tmp 1) rfl rfl st ?_; rintro T w0 t0)
    | (refine wpl_loadA (vs := ivs c) rfl (.tmp 4) (by rfl) agg32 (by rfl) (ivs_len20 HC.out) t0.rowAll ?_)
    | (go_at_call 39; refine scheck_c t0 HC.out HR.out ?_; rintro w1 t1; have k0 := cfg_at t1 HLL.out.1; have k5 := cfg_at t1 HLL.out.2.1; have k6 := cfg_at t1 HLL.out.2.2; rw [HN.out] at k0; rw [HAM.out] at k5; rw [HPM.out] at k6)
    | (go_at_call 40; refine views_new_c t1 HV.out ?_; rintro v w2 t2; have b46 := run_build46 v d HC.out w2)
    | (refine wpl_loadA (vs := ivs c) rfl (.tmp 4) (by rfl) agg32 (by rfl) (ivs_len20 HC.out) (St.pick 1 t2).rowAll ?_)
    | (refine wpl_boxA (vs := newC c v d) rfl (.tmp 40) rfl rfl t2 ?_; rintro b w3 t3))
  have u1 := newC_split HC.out t3
  have u2 := OwnS.none0 (sz := 13) (OwnS.none0 (sz := 2) u1.empD)
  have u3 : St W w3 (NewsA b 1 [] [] :: _) := NewsA.close (L := []) (C := []) (u2.perm [4, 0, 0, 0])
  have e : newO c self D = ⟨⟨self, [], am, [], pm⟩, [], [], c, D, List.replicate 12 0, 0, -1, 0⟩ := by unfold newO; rw [HAM.out, HPM.out]
  exact HK.out b _ (by rw [e]; exact St.drop (St.pick 1 (OvA.close (O := ⟨⟨self, [], am, [], pm⟩, [], [], c, D, List.replicate 12 0, 0, -1, 0⟩) (u3.perm [1, 0, 0, 0, 0, 0, 0, 1]))))

theorem asked_c (st : St W w (OvA b d O :: R)) (K : post (.returned (.tuple #[.int .i64 (if O.asked = -1 then 0 else O.asked), .bool (decide (O.asked ≠ -1))])) w) : Calls Tryz.prog 20 #[.pointer (some ⟨b, 0, none⟩)] w post := by
  have HK := hid K; clear K
  obtain ⟨v, s⟩ := OvA.open st
  obtain ⟨g36, g37, g38, f36, f37, f38⟩ := row3c (St.pick 5 s)
  obtain ⟨a, ha⟩ : ∃ a, O.asked = a := ⟨_, rfl⟩
  rw [ha] at g37 HK
  clear ha
  by_cases h : a = -1
  · subst h
    go_enter Tryz.func20, Tryz.ntmps20
    go_wp2
    exact HK.out
  · have h1 : (a == -1) = false := by simp [h]
    rw [if_neg h, decide_eq_true h] at HK
    go_enter Tryz.func20, Tryz.ntmps20
    go_wp2
    exact HK.out

theorem not_take_succ {l : List Int} {i : Nat} (h : i < l.length) {x : Int} (h1 : x ∉ l.take i) (h2 : l[i] ≠ x) : x ∉ l.take (i + 1) := by
  rw [List.take_succ_eq_append_getElem h]; intro g; rcases List.mem_append.1 g with g | g; exact h1 g; exact h2 (List.mem_singleton.1 g).symm

theorem holds_c {ao : Option Addr} {n c : Nat} {zs : List Int} {x : Int} (rd : RdS w 1 ao n c (ivs zs)) (K : post (.returned (.bool (memB zs x))) w) : Calls Tryz.prog 19 #[.slice ao n c, .int .i64 x] w post := by
  have HK := hid K; clear K
  have hz : zs.length = n := by have := rd.len; rw [ivs_length] at this; omega
  have HZ := hid hz
  have hbig := rd.big
  clear hz
  go_enter Tryz.func19, Tryz.ntmps19
  go_wp2_with fail
  go_loopw [9] (fun ii wr => ∃ i : Nat, i ≤ n ∧ ii = .int .i64 i ∧ x ∉ zs.take i ∧ wr = w) (fun ii _ => n - (intOf ii).toNat)
  case atStart => exact ⟨0, Nat.zero_le _, rfl, by simp, rfl⟩
  case round =>
    obtain ⟨i, hi, rfl, hm, rfl⟩ := hrel
    by_cases hlt : i < n
    · obtain ⟨g3, o3, rfl⟩ := rd.addr (by omega)
      have hiA : i < zs.length := by rw [HZ.out]; exact hlt
      have ci := rd.at (ivs_get hiA)
      have hi2 : (i : Int) < (n : Int) := by omega
      have hme := List.getElem_mem hiA
      have HN := hid (fun h2 => not_take_succ hiA hm h2)
      obtain ⟨q, hq⟩ : ∃ q, zs[i] = q := ⟨_, rfl⟩
      rw [hq] at ci hme
      have HQ := hid hq
      clear hq hm rd
      by_cases hqx : q = x
      · subst hqx
        rw [memB_yes hme] at HK
        go_wp2_with fail
        exact HK.out
      · have hb : (q == x) = false := by simp [hqx]
        have HQX := hid hqx
        clear hqx
        go_wp2_with fail
        go_roundw
        case rel => exact ⟨i + 1, by omega, by go_num, HN.out (by rw [HQ.out]; exact HQX.out), trivial⟩
        case measure => simp [intOf]; omega
    · have hie : i = n := by omega
      subst hie
      rw [List.take_of_length_le (by rw [HZ.out]; exact Nat.le_refl _)] at hm
      rw [memB_no hm] at HK
      clear hm
      go_wp2_with fail
      exact HK.out

end

end Go.Proofs.YtbpdchaeakihkaaGreat
