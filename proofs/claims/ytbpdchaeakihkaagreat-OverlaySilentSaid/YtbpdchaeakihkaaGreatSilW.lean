/- OverlaySilent: the walk. -/
import Derived.Test.YtbpdchaeakihkaaGreatSilL
import Derived.Test.YtbpdchaeakihkaaGreatBeatW
namespace Go.Proofs.YtbpdchaeakihkaaGreat
open Go.RowKit Go.Qd

section
variable {W w : World} {post : Ending → World → Prop}
attribute [local go_sem ↓] execOp_load23

set_option maxRecDepth 100000 in
set_option maxHeartbeats 16000000 in
theorem overlaySilent_c {c : List Int} {peer : Int} (hc : c.length = 20) (K : ∀ W2, Below W.heap.size W W2 → post (.returned (.bool true)) W2) :
    Calls Tryz.prog 4 #[.agg (ivs c).toArray, .int .i64 peer] W post := by
  have HK := hid K; clear K
  have HC := hid hc
  have HL0 : Hid (0 < c.length) := hid (by omega)
  have HL11 : Hid (11 < c.length) := hid (by omega)
  obtain ⟨rb, hrb⟩ : ∃ rb, rightB c = rb := ⟨_, rfl⟩
  have HR := hid hrb
  obtain ⟨nn, hnn⟩ : ∃ nn, c.getD 0 0 = nn := ⟨_, rfl⟩
  have HNN := hid hnn
  by_cases hq : rb = true ∧ 1 ≤ peer ∧ peer < nn
  · obtain ⟨rfl, hp1, hp2⟩ := hq
    obtain ⟨HS0, HON⟩ := SI.start hc hrb (peer := peer) ⟨hp1, by rw [hnn]; exact hp2⟩
    have HS0 := hid HS0; have HON := hid HON
    have HOK0 := hid (new_ok hc hrb (self := 0) (D := []) ⟨Int.le_refl _, by have := (cfg_views hc hrb).2.2; omega⟩)
    have k1 : decide (peer < 1) = false := decide_eq_false (by omega)
    have k2 : decide (nn ≤ peer) = false := decide_eq_false (by omega)
    have HN0 : Hid (0 ≤ (0 : Int) ∧ (0 : Int) < c.getD 0 0) := hid (by have := (cfg_views hc hrb).2.2; omega)
    have HPE : Hid (1 ≤ peer ∧ peer < c.getD 0 0) := hid ⟨hp1, by rw [hnn]; exact hp2⟩
    obtain ⟨sil, hsil⟩ : ∃ sil, c.getD 11 0 = sil := ⟨_, rfl⟩
    have hsb : 1 ≤ sil ∧ sil ≤ 64 := by
      have a := fine_lo (rightB_iff.1 hrb 11 (by decide))
      have b := fine_lo (rightB_iff.1 hrb 10 (by decide))
      have d := fine_hi (rightB_iff.1 hrb 11 (by decide))
      simp only [leastF, mostF] at a b d
      simp at a b d
      rw [← hsil]; simp; omega
    have HSIL := hid hsil
    have st := St.init W
    clear hrb hc hnn hsil hp1 hp2
    go_enter Tryz.func4, Tryz.ntmps4
    go_wp2_with (first
      | (replace st := hid st; refine wpl_boxA (vs := ivs c) rfl (.tmp 0) rfl rfl st.out ?_; rintro T w1 s1; clear st)
      | (go_at_call 10; refine speaks_c s1 ?_; rintro w2 s2; have l2 := ldC HC.out s2)
      | (go_at_call 11; refine right_c s2 HC.out ?_; rintro w3 s3; rw [HR.out]; have l3 := ldC HC.out s3; have c0 := cfg_at s3 HL0.out; rw [HNN.out] at c0)
      | (go_at_call 13; refine of_c s3 HC.out ?_; rintro w4 s4)
      | (go_at_call 14; refine new_c (zs := []) s4 (RdS.none0 _ _) (by decide) ?_; rintro d w5 s5)
      | (go_at_call 12; refine onew_c s5 HC.out HR.out HN0.out ?_; rintro b w6 s6)
      | (go_at_call 15; refine join_c s6 HOK0.out HON.out (Nat.zero_le 100) (Nat.zero_le 100) ?_; rintro la ln lc ca cn cc w7 s7
         have u : St W w7 [OvA b d (freshO (raiseO (newO c 0 []) peer)), row T 0 (ivs c)] := s7.sel [0, 3]
         have c11 := cfg_at (St.pick 1 u) HL11.out; rw [HSIL.out] at c11))
    clear l2 l3 s1 s2 s3 s4 s5 s6 s7 c0 c11
    go_loopw [50] (fun ii wr => ∃ (i : Nat) (O : OV), (i : Int) ≤ sil ∧ ii = .int .i64 i ∧ Hid (SI c peer i O) ∧ St W wr [OvA b d O, row T 0 (ivs c)]) (fun ii _ => sil.toNat - (intOf ii).toNat)
    case atStart => exact ⟨0, _, by omega, rfl, HS0, u⟩
    case round =>
      obtain ⟨i, O, hi, rfl, HB, sr⟩ := hrel
      have HSOK : Hid (SOK O 1000000 0) := hid ⟨HB.out.ok, fun j => ⟨(HB.out.hh j).1, by have := (HB.out.hh j).2; omega⟩, by rw [HB.out.fc]; exact Nat.le_refl _, HB.out.fl⟩
      have HTK : Hid (0 ≤ O.ticks ∧ O.ticks ≤ 1000000) := hid (by rw [HB.out.tk]; omega)
      have HSI : Hid (0 ≤ O.since ∧ O.since ≤ 4) := hid HB.out.si
      by_cases hlt : (i : Int) < sil
      · go_wp2_with (first
          | (go_at_call 18; refine tick_c sr HSOK.out HTK.out HSI.out ?_; rintro xa xn xc la ln lc ca cn cc w7 s7
             have HT : Hid (SI c peer ((i : Int) + 1) (freshO (tickR O xa xn xc))) := hid (HB.out.tick (by omega) (by rw [HSIL.out]; exact hlt) xa xn xc)
             have u2 := s7.sel [0, 3]
             obtain ⟨T', hT'⟩ : ∃ T', freshO (tickR O xa xn xc) = T' := ⟨_, rfl⟩
             have u3 : St W w7 [OvA b d T', row T 0 (ivs c)] := by rw [← hT']; exact u2
             rw [hT'] at HT
             obtain ⟨v, t⟩ := OvA.open u3; have g0 := row1c t; clear hT' u2 s7)
          | (go_at_call 16; refine active_c (St.pick 6 t) (by rw [HT.out.va]; show 1 ≤ 4096; decide) ?_; rintro a5 c5 w8 s8; rw [HT.out.va]; rw [HT.out.va] at s8))
        have s9 := OvA.close (O := T') (v := v) (s8.perm [2, 2, 2, 2, 2, 2, 1, 1])
        go_roundw
        case rel => exact ⟨i + 1, T', by omega, by go_num, HT, s9.sel [0, 1]⟩
        case measure => simp [intOf]; omega
      · have hie : (i : Int) = sil := by omega
        have HNE : Hid (peer ≠ -1) := hid (by have := HPE.out; omega)
        go_wp2_with (first
          | (go_at_call 18; refine tick_c sr HSOK.out HTK.out HSI.out ?_; rintro xa xn xc la ln lc ca cn cc w7 s7
             have hT : SL c peer (tickR O xa xn xc) := HB.out.last HC.out HR.out (by rw [HSIL.out]; exact hie) xa xn xc
             obtain ⟨T', hT'⟩ : ∃ T', tickR O xa xn xc = T' := ⟨_, rfl⟩
             rw [hT'] at hT s7
             obtain ⟨M, hM, hM3, hMh⟩ := hT.let1
             rw [hM] at s7
             obtain ⟨h1, h2, h3, h4⟩ := hT.accept HC.out HR.out HPE.out
             obtain ⟨F, hF⟩ : ∃ F, freshO T' = F := ⟨_, rfl⟩
             have HFa : Hid (F.V.a = []) := hid (by rw [← hF]; exact hT.va)
             have HFp : Hid (F.V.p = [peer]) := hid (by rw [← hF]; exact hT.vp)
             have HFq : Hid (F.asked = peer) := hid (by rw [← hF]; exact hT.qa)
             have HFo : Hid (OOK F) := hid (by rw [← hF]; exact hT.ok.fresh)
             have HFl : Hid (F.L.length ≤ 100 ∧ F.C.length ≤ 100) := hid (by rw [← hF]; exact ⟨Nat.zero_le _, Nat.zero_le _⟩)
             rw [hF] at h1 h2 h3 h4 s7
             have H1 := hid h1; have H2 := hid h2; have H3 := hid h3; have H4 := hid h4; have HM3 := hid hM3; have HMH := hid hMh
             have s8 := s7.sel [0, 0, 2]
             have s8' : St W w7 [OvA b d F, OwnS 13 la ln lc (letC [⟨peer, M⟩]), row T 0 (ivs c)] := s8
             clear hT hT' hM hM3 hMh h1 h2 h3 h4 hF s8 s7)
          | (go_at_call 20; refine asked_c s8' ?_; rw [HFq.out, if_neg HNE.out, decide_eq_true HNE.out]; obtain ⟨v, t⟩ := OvA.open s8'; have g0 := row1c t)
          | (go_at_call 21; refine passive_c (St.pick 1 s9) (by rw [HFp.out]; show 1 ≤ 4096; decide) ?_; rintro a6 c6 w9 sA; rw [HFp.out]; rw [HFp.out] at sA
             obtain ⟨hl, B1, p1, rfl, k1, k2⟩ := let1_rd (OwnS.rd (St.pick 10 sA))
             have k3 := (OwnS.rd (St.pick 10 sA)).at (i := 4) (u := .bool M.high) rfl
             rw [HMH.out] at k3
             rw [show ({ to := peer, m := M } : LetV).m.kind = 3 from HM3.out] at k2
             subst hl
             have sB := OvA.close (O := F) (v := v) (sA.perm [3, 3, 3, 3, 3, 3, 1, 2]))
          | (go_at_call 22; refine take4_c (O := F) (m := kindM 4) sB HFo.out H1.out rfl (fun w' _ => RdS.none0 w' 1) (by decide) H2.out HFl.out.1 HFl.out.2 ?_; rintro la2 ln2 lc2 ca2 cn2 cc2 wC sC
             obtain ⟨G, hG⟩ : ∃ G, answerO (heardO F peer) peer true = G := ⟨_, rfl⟩
             rw [hG] at sC H3 H4
             rw [H4.out] at sC
             obtain ⟨hc2, B3, p3, rfl, k4⟩ := ch1_rd (OwnS.rd (St.pick 2 sC))
             subst hc2
             obtain ⟨v3, t3⟩ := OvA.open (sC.sel [0])
             have g3 := row1c t3
             have HGa : Hid ((freshO G).V.a = [peer]) := hid H3.out
             clear k1 k2 k3)
          | (go_at_call 16; first
              | (refine active_c (St.pick 1 sE) (by rw [HGa.out]; show 1 ≤ 4096; decide) ?_; rintro a9 c9 wF sF; rw [HGa.out]; rw [HGa.out] at sF
                 obtain ⟨B4, p4, rfl⟩ := (OwnS.rd sF).addr (by show 0 < 1; decide)
                 have k5 := (OwnS.rd sF).at (i := 0) (u := .int .i64 peer) rfl
                 rw [Nat.add_zero] at k5)
              | (refine active_c (St.pick 6 t3) (by rw [HGa.out]; show 1 ≤ 4096; decide) ?_; rintro a8 c8 wE sE; rw [HGa.out]; rw [HGa.out] at sE; have g4 := row1c (St.pick 2 sE))
              | (refine active_c (St.pick 6 t) (by rw [HFa.out]; show 0 ≤ 4096; decide) ?_; rintro a5 c5 w8 s9; rw [HFa.out]; rw [HFa.out] at s9; have g1 := row1c (St.pick 2 s9))))
        exact HK.out _ sF.below
  · clear hc HL11
    have st := St.init W
    cases rb with
    | false =>
      clear hq hrb hnn
      go_enter Tryz.func4, Tryz.ntmps4
      go_wp2_with (first
        | (replace st := hid st; refine wpl_boxA (vs := ivs c) rfl (.tmp 0) rfl rfl st.out ?_; rintro T w1 s1; clear st)
        | (go_at_call 10; first
            | (refine speaks_c s3 ?_; rintro w4 s4)
            | (refine speaks_c s1 ?_; rintro w2 s2; have l2 := ldC HC.out s2))
        | (go_at_call 11; refine right_c s2 HC.out ?_; rintro w3 s3; rw [HR.out]))
      exact HK.out _ s4.below
    | true =>
      by_cases hp1 : 1 ≤ peer
      · have k1 : decide (peer < 1) = false := decide_eq_false (by omega)
        have k2 : decide (nn ≤ peer) = true := decide_eq_true (by have : ¬ peer < nn := fun h => hq ⟨rfl, hp1, h⟩; omega)
        clear hq hrb hnn hp1
        go_enter Tryz.func4, Tryz.ntmps4
        go_wp2_with (first
          | (replace st := hid st; refine wpl_boxA (vs := ivs c) rfl (.tmp 0) rfl rfl st.out ?_; rintro T w1 s1; clear st)
          | (go_at_call 10; first
              | (refine speaks_c s3 ?_; rintro w4 s4)
              | (refine speaks_c s1 ?_; rintro w2 s2; have l2 := ldC HC.out s2))
          | (go_at_call 11; refine right_c s2 HC.out ?_; rintro w3 s3; rw [HR.out]; have c0 := cfg_at s3 HL0.out; rw [HNN.out] at c0))
        exact HK.out _ s4.below
      · have k1 : decide (peer < 1) = true := decide_eq_true (by omega)
        clear hq hrb hnn hp1
        go_enter Tryz.func4, Tryz.ntmps4
        go_wp2_with (first
          | (replace st := hid st; refine wpl_boxA (vs := ivs c) rfl (.tmp 0) rfl rfl st.out ?_; rintro T w1 s1; clear st)
          | (go_at_call 10; first
              | (refine speaks_c s3 ?_; rintro w4 s4)
              | (refine speaks_c s1 ?_; rintro w2 s2; have l2 := ldC HC.out s2))
          | (go_at_call 11; refine right_c s2 HC.out ?_; rintro w3 s3; rw [HR.out]))
        exact HK.out _ s4.below

end

end Go.Proofs.YtbpdchaeakihkaaGreat
