/- OverlayPlays: the walk. Printed by mkPlaysW.py. -/
import Derived.Test.YtbpdchaeakihkaaGreatRovE
import Derived.Test.YtbpdchaeakihkaaGreatBeatX
import Derived.Test.YtbpdchaeakihkaaGreatLetT
import Derived.Test.YtbpdchaeakihkaaGreatTellM
import Derived.Deep.RegionHeld3
namespace Go.Proofs.YtbpdchaeakihkaaGreat
open Go.RowKit Go.Qd

section
variable {W w : World} {post : Ending → World → Prop}
attribute [local go_sem ↓] execOp_load23 execOp_load77 execOp_ldRO

set_option maxRecDepth 100000 in
set_option maxHeartbeats 16000000 in
theorem overlayPlays_c {self : Int} {c : List Int} {da la : Option Addr} {dn dc ln lc : Nat} {draws : List Int} {l : List OAct} (hc : c.length = 20) (hd : RdS W 1 da dn dc (ivs draws)) (hl : RdS W 14 la ln lc (oactC l)) (hr : ∀ x ∈ l, x.m.reads W x.ks x.es)
    (K : ∀ W2, Below W.heap.size W W2 → post (.returned (.bool true)) W2) :
    Calls Tryz.prog 9 #[.int .i64 self, .agg (ivs c).toArray, .slice da dn dc, .slice la ln lc] W post := by
  have HK := hid K; clear K
  have HC := hid hc
  have HL0 : Hid (0 < c.length) := hid (by omega)
  have HD := hid hd; have HLR := hid hl; have HRD := hid hr
  obtain ⟨rb, hrb⟩ : ∃ rb, rightB c = rb := ⟨_, rfl⟩
  have HR := hid hrb
  obtain ⟨nn, hnn⟩ : ∃ nn, c.getD 0 0 = nn := ⟨_, rfl⟩
  have HNN := hid hnn
  have HLN : Hid (l.length = ln) := hid (oactC_ln hl)
  have st := St.init W
  clear hd hl hr hc
  by_cases hq : rb = true ∧ 0 ≤ self ∧ self < nn
  · obtain ⟨rfl, hp1, hp2⟩ := hq
    have HRT := hid hrb
    have HLI0 : Hid (LX c self 0 (newO c self draws)) := hid (LX.new HC.out hrb ⟨hp1, by rw [hnn]; exact hp2⟩)
    have HSF : Hid (0 ≤ self ∧ self < c.getD 0 0) := hid ⟨hp1, by rw [hnn]; exact hp2⟩
    have HNK : Hid ((newR c self draws da dn dc).ok) := hid ⟨HC.out, rfl⟩
    clear hrb hnn hp1 hp2
    go_enter Tryz.func9, Tryz.ntmps9
    go_wp2_with (first
      | (replace st := hid st; refine wpl_boxA (vs := ivs c) rfl (.tmp 1) rfl rfl st.out ?_; rintro T w1 s1; clear st)
      | (go_at_call 10; first
          | (refine speaks_c s3 ?_; rintro w9 s9)
          | (refine speaks_c s1 ?_; rintro w2 s2))
      | (go_at_call 23; refine few17_c s2 (HLR.out.rds _) HRD.out ?_; rintro w3 fb s3 hfb; cases fb <;> (first | (have HFB := hid (hfb rfl); clear hfb) | clear hfb))
      | (go_at_call 14; refine new_c (zs := draws) s3 (HD.out.st s3) (by have hfb2 := HFB.out; omega) ?_; rintro d w4 s4; have l4 := ldC HC.out (St.pick 1 s4))
      | (go_at_call 13; refine of_c s4 HC.out ?_; rintro w5 s5)
      | (go_at_call 12; refine onew_c s5 HC.out HRT.out HSF.out ?_; rintro b w6 s6; have l6 := ldC HC.out (St.pick 1 s6))
      | (go_at_call 32; refine rnewO_c (D := draws) HC.out HRT.out HSF.out s6 ?_; rintro w7 s7)
      | (refine wpl_allocA rfl rfl zeroRO_z s7 ?_; rintro E w8 s8)
      | (refine wpl_storeA (vs := (newR c self draws da dn dc).cells) rfl (.tmp 12) (.tmp 45) (by rfl) aggRO (by rfl) (by rfl) (RO.len HNK.out) (RO.one _) s8 zeroRO_len ?_; rintro wE sE))
    · exact HK.out _ s9.below
    · have HFW := hid HFB.out
      have u : St W wE [OvA b d (freshO (newR c self draws da dn dc).o), row E 0 (newR c self draws da dn dc).cells, (newR c self draws da dn dc).mem W] := (new_mem HD.out sE).sel [2, 1, 0]
      have hln60 : ln ≤ 60 := HFW.out.1
      have HX0 : Hid (LX c self 0 (freshO (newR c self draws da dn dc).o) ∧ AskN (freshO (newR c self draws da dn dc).o) ∧ (newR c self draws da dn dc).ok) := hid ⟨HLI0.out, .inl rfl, HNK.out⟩
      obtain ⟨x0, hx0⟩ : ∃ x0, newR c self draws da dn dc = x0 := ⟨_, rfl⟩
      rw [hx0] at u HX0
      clear hx0 s1 s2 s3 s4 s5 s6 s7 s8 sE l4 l6 HFB HLI0 HNK
      go_loopw [61] (fun ii wr => ∃ (i : Nat) (x : RO), i ≤ ln ∧ ii = .int .i64 i ∧ Hid (LX c self i (freshO x.o) ∧ AskN (freshO x.o) ∧ x.ok) ∧ St W wr [OvA b d (freshO x.o), row E 0 x.cells, x.mem W]) (fun ii _ => ln - (intOf ii).toNat)
      case atStart => exact ⟨0, x0, Nat.zero_le _, rfl, HX0, u⟩
      case round =>
        clear u HX0
        obtain ⟨i, x, hi, rfl, HLI, sr⟩ := hrel
        by_cases hlt : i < ln
        · have hi2 : (i : Int) < (ln : Int) := by omega
          have rd := HLR.out.st sr
          obtain ⟨g3, o3, rfl⟩ := rd.addr (by omega)
          have hiA : i < l.length := by rw [HLN.out]; exact hlt
          have ci := oactLd rd hiA
          have hq0 := HRD.out _ (List.getElem_mem hiA)
          have hf0 := HFW.out.2.2 _ (List.getElem_mem hiA)
          obtain ⟨q, hq⟩ : ∃ q, l[i] = q := ⟨_, rfl⟩
          rw [hq] at ci hq0 hf0
          have HQ := hid hq0; have HFQ := hid hf0
          have HPL := hid (reads_len hq0)
          have HKE : Hid (q.ks.length = q.m.mn ∧ q.es.length = q.m.en) := hid ⟨mkC_ln hq0.2.1, enC_ln hq0.2.2⟩
          have HSK := hid (HLI.out.1.li.sok (by omega))
          have HMO : Hid (OOK x.o ∧ (∀ j : Nat, 0 ≤ x.o.heard.getD j 0 ∧ x.o.heard.getD j 0 ≤ 1000000) ∧ (0 ≤ x.o.ticks ∧ x.o.ticks ≤ 1000000) ∧ (0 ≤ x.o.since ∧ x.o.since ≤ 4) ∧ (x.o.asked = -1 ∨ 0 ≤ x.o.asked)) :=
            hid ⟨⟨HSK.out.1.ok.v, HSK.out.1.ok.cl, HSK.out.1.ok.hl, HSK.out.1.ok.r⟩, HSK.out.1.hh, HSK.out.2.1, HSK.out.2.2, HLI.out.2.1⟩
          clear hq rd hiA hq0 hf0
          go_wp2_with (first
            | (refine wpl_allocA rfl rfl zeroRO_z sD ?_; rintro N wF sF)
            | (refine wpl_allocA rfl rfl zero_oact sr ?_; rintro P w8 s8)
            | (refine wpl_storeA (vs := y.cells) rfl (.tmp 12) (.tmp 78) (by rfl) aggRO (by rfl) (by rfl) (RO.len HYK.out) (RO.one _) (St.pick 7 sG) (RO.len HLI.out.2.2) ?_; rintro wH sH)
            | (refine wpl_storeA (vs := y.cells) rfl (.tmp 19) (.tmp 76) (by rfl) aggRO (by rfl) (by rfl) (RO.len HYK.out) (RO.one _) sF zeroRO_len ?_; rintro wG sG; have lN := roLd HYK.out sG)
            | (refine wpl_storeA (vs := q.cells) rfl (.tmp 15) (.tmp 64) (by rfl) agg_oact (by rfl) (by rfl) rfl (oact_one q) s8 rfl ?_; rintro w9 s9
               have lq : (loadG 77 (.pointer (some ⟨P, 0, none⟩))).run Tryz.prog w9 = .ok (.agg q.cells.toArray) w9 := run_loadG (o := 0) agg_oact rfl s9.rowAll)
            | (go_at_call 24; refine run_c (x := q) (St.pick 1 s9) HSK.out.1 HSK.out.2.1 HSK.out.2.2 HQ.out HFQ.out ?_; rintro X e xa xn xc ya yn yc wB hst sB
               have HST := hid hst
               have lx := roLd HLI.out.2.2 (St.pick 5 sB)
               have lq2 : (loadG 77 (.pointer (some ⟨P, 0, none⟩))).run Tryz.prog wB = .ok (.agg q.cells.toArray) wB := run_loadG (o := 0) agg_oact rfl (St.pick 4 sB).rowAll
               clear hst)
            | (go_at_call 33; refine rmodel_c (x := x) (q := q) HMO.out.1 HMO.out.2.1 HMO.out.2.2.1 HMO.out.2.2.2.1 HMO.out.2.2.2.2 HQ.out.1 HQ.out.2.1 HQ.out.2.2 (St.pick 6 sB) ?_; rintro y k wC hrs hyk sD
               have HYK := hid hyk
               obtain ⟨hse, rfl⟩ := step_rel rfl HKE.out.1 HKE.out.2 HST.out hrs
               have HSE := hid hse
               clear hrs hyk hse))
          have HX := hid (HLI.out.1.step HSF.out HPL.out HST.out)
          have HT := hid (HLI.out.1.told HSF.out HPL.out HST.out)
          have HAN : Hid (AskN (freshO X)) := hid (show AskN X from step_asked HLI.out.1.li.wk HLI.out.2.1 HST.out)
          have HCB : Hid (X.C.length ≤ 1000) := hid (by have := step_lenC HLI.out.1.li.wk HST.out; have h0 : (freshO x.o).C.length = 0 := rfl; omega)
          have HEQ := hid (strip_eq HSE.out)
          have HLE := hid (strip_lets HEQ.out.2.2 (fun z hz => (HT.out.2.1 z hz).2.z.2.2.2.2.2))
          have sM := RO.memO (St.pick 2 sH)
          have HYN : Hid (y.ln = xn ∧ y.cn = yn ∧ y.dn = (freshO X).D.length) := hid (by
            have a1 := (OwnS.rd (St.pick 1 sM)).len
            have a2 := (OwnS.rd (St.pick 2 sM)).len
            have a3 := ivs_len (RdH.rd sM)
            have a4 := (OwnS.rd (St.pick 7 sM)).len
            have a5 := (OwnS.rd (St.pick 8 sM)).len
            rw [letC_size] at a1 a4
            rw [chC_size] at a2 a5
            have e1 := HLE.out.1
            have e2 : X.C.length = y.o.C.length := congrArg List.length HEQ.out.2.1
            have e3 : (freshO X).D = y.o.D := (congrArg OV.D HEQ.out.1 : (freshO X).D = (freshO y.o).D)
            rw [e3]
            exact ⟨by omega, by omega, by omega⟩)
          obtain ⟨dl, hdl⟩ : ∃ dl, (freshO X).D.length = dl := ⟨_, rfl⟩
          have HDL := hid hdl
          rw [hdl] at HYN
          have hxn := (OwnS.rd (St.pick 7 sM)).big
          have hyn := (OwnS.rd (St.pick 8 sM)).big
          have u : St W _ [row E 0 y.cells, OwnS 13 xa xn xc (letC X.L), OwnS 2 ya yn yc (chC X.C), sepL (X.L.map LetV.own), OvA b d (freshO X), RdH W 1 y.da y.dn y.dc (ivs y.o.D), OwnS 13 y.la y.ln y.lc (letC y.o.L), OwnS 2 y.ca y.cn y.cc (chC y.o.C), psR W y.o.L] := (sM.sel [4, 6, 6, 6, 5, 0, 0, 0, 0]).drew
          have gA := playS HYK.out HYN.out.1 HYN.out.2.1 HYN.out.2.2 u
          clear hdl sM sH sG sF sD sB s9 s8 sr lN lx lq lq2 ci
          go_region_held3 (fun w' => w'.cell? ⟨E, 63, none⟩ = some (.slice y.la xn y.lc) ∧ w'.cell? ⟨E, 64, none⟩ = some (.slice y.ca yn y.cc) ∧ w'.cell? ⟨E, 47, none⟩ = some (.slice y.da dl y.dc) ∧ (loadG 96 (.pointer (some ⟨E, 0, none⟩))).run Tryz.prog w' = .ok (.agg y.cells.toArray) w')
            (first
              | with_reducible exact g5
              | with_reducible exact g4
              | with_reducible exact g3
              | with_reducible exact g2
              | with_reducible exact g1
              | with_reducible exact gA)
            (first
              | (go_at_call 27; refine letters_c (L := X.L) (St.pick 1 u) (fun z hz => (HT.out.2.1 z hz).2.z.2.2.2.2.2) (Nat.le_trans HT.out.2.2.1 (by decide)) ?_; rintro a1 c1 w1 y1; have g1 := playS HYK.out HYN.out.1 HYN.out.2.1 HYN.out.2.2 (St.pick 2 y1))
              | (go_at_call 34; refine rlettersEq_c (L1 := X.L.map LetV.bare) (L2 := y.o.L) (bare_lets HLE.out).1 (bare_lets HLE.out).2 (fun w s => OwnS.rd s) (fun w s => by have := OwnS.rd (St.pick 7 s); rwa [HYN.out.1] at this)
                   (fun i h w s => by have h2 : i < X.L.length := (by rwa [List.length_map] at h); rw [List.getElem_map]; exact own_at (St.pick 4 s) h2) (fun i h w s => ps_at (St.pick 9 s) h) y1 ?_; rintro w2 y2; have g2 := playS HYK.out HYN.out.1 HYN.out.2.1 HYN.out.2.2 (St.pick 2 y2))
              | (go_at_call 36; refine lawChanges_c (C := X.C) (St.pick 3 y2) HCB.out ?_; rintro a3 c3 w3 y3; have g3 := playS HYK.out HYN.out.1 HYN.out.2.1 HYN.out.2.2 (St.pick 4 y3))
              | (go_at_call 35; refine rchangesEq_c (D := X.C) (fun w s => OwnS.rd s) (fun w s => by have := OwnS.rd (St.pick 9 s); rwa [HYN.out.2.1, ← HEQ.out.2.1] at this) y3 ?_; rintro w4 y4; have g4 := playS HYK.out HYN.out.1 HYN.out.2.1 HYN.out.2.2 (St.pick 4 y4))
              | (go_at_call 37; refine is_c (x := y) (O := freshO X) HYK.out (congrArg OV.V HEQ.out.1 : (freshO X).V = (freshO y.o).V).symm (congrArg OV.asked HEQ.out.1 : (freshO X).asked = (freshO y.o).asked).symm HX.out.li.wk.ok.v HAN.out (St.pick 6 y4) ?_; rintro w5 y5; have g5 := playS HYK.out HYN.out.1 HYN.out.2.1 HYN.out.2.2 (St.pick 5 y5))
              | (go_at_call 25; refine oleft_c HDL.out y5 ?_))
          all_goals
            have z := RO.memC (y5.sel [7, 7, 7, 7, 0, 4])
            rw [HEQ.out.1] at z
            go_wp2_with fail
            go_roundw
            case rel => exact ⟨i + 1, y, by omega, by go_num, hid (by rw [← HEQ.out.1]; exact ⟨HX.out, HAN.out, HYK.out⟩), z.sel [1, 1, 0]⟩
            case measure => simp [intOf]; omega
        · have hie : i = ln := by omega
          subst hie
          go_wp2_with fail
          exact HK.out _ sr.below
  · cases rb with
    | false =>
      have HRF := hid hrb
      clear hq hrb hnn
      go_enter Tryz.func9, Tryz.ntmps9
      go_wp2_with (first
        | (replace st := hid st; refine wpl_boxA (vs := ivs c) rfl (.tmp 1) rfl rfl st.out ?_; rintro T w1 s1; clear st)
        | (go_at_call 10; first
            | (refine speaks_c s3 ?_; rintro w9 s9)
            | (refine speaks_c s1 ?_; rintro w2 s2))
        | (go_at_call 23; refine few17_c s2 (HLR.out.rds _) HRD.out ?_; rintro w3 fb s3 hfb; cases fb <;> (first | (have HFB := hid (hfb rfl); clear hfb) | clear hfb))
        | (go_at_call 14; refine new_c (zs := draws) s3 (HD.out.st s3) (by have hfb2 := HFB.out; omega) ?_; rintro d w4 s4; have l4 := ldC HC.out (St.pick 1 s4))
        | (go_at_call 13; refine of_c s4 HC.out ?_; rintro w5 s5)
        | (go_at_call 12; refine onew_cfg s5 HC.out HRF.out ?_; rintro w6 s6; have l6 := ldC HC.out (St.pick 1 s6))
        | (go_at_call 32; refine rnewO_cfg HC.out HRF.out s6 ?_; rintro w7 s7)
        | (refine wpl_allocA rfl rfl zeroRO_z s7 ?_; rintro E w8 s8)
        | (refine wpl_storeA (vs := zeroRO.cells) rfl (.tmp 12) (.tmp 45) (by rfl) aggRO (by rfl) (by rfl) zeroRO_len (RO.one _) s8 zeroRO_len ?_; rintro wE sE))
      · exact HK.out _ s9.below
      · exact HK.out _ sE.below
    | true =>
      have HRT := hid hrb
      have HSN : Hid (¬ (0 ≤ self ∧ self < c.getD 0 0)) := hid (fun h => hq ⟨rfl, h.1, by rw [← hnn]; exact h.2⟩)
      clear hq hrb hnn
      go_enter Tryz.func9, Tryz.ntmps9
      go_wp2_with (first
        | (replace st := hid st; refine wpl_boxA (vs := ivs c) rfl (.tmp 1) rfl rfl st.out ?_; rintro T w1 s1; clear st)
        | (go_at_call 10; first
            | (refine speaks_c s3 ?_; rintro w9 s9)
            | (refine speaks_c s1 ?_; rintro w2 s2))
        | (go_at_call 23; refine few17_c s2 (HLR.out.rds _) HRD.out ?_; rintro w3 fb s3 hfb; cases fb <;> (first | (have HFB := hid (hfb rfl); clear hfb) | clear hfb))
        | (go_at_call 14; refine new_c (zs := draws) s3 (HD.out.st s3) (by have hfb2 := HFB.out; omega) ?_; rintro d w4 s4; have l4 := ldC HC.out (St.pick 1 s4))
        | (go_at_call 13; refine of_c s4 HC.out ?_; rintro w5 s5)
        | (go_at_call 12; refine onew_self s5 HC.out HRT.out HSN.out ?_; rintro w6 s6; have l6 := ldC HC.out (St.pick 1 s6))
        | (go_at_call 32; refine rnewO_self HC.out HRT.out HSN.out s6 ?_; rintro w7 s7)
        | (refine wpl_allocA rfl rfl zeroRO_z s7 ?_; rintro E w8 s8)
        | (refine wpl_storeA (vs := zeroRO.cells) rfl (.tmp 12) (.tmp 45) (by rfl) aggRO (by rfl) (by rfl) zeroRO_len (RO.one _) s8 zeroRO_len ?_; rintro wE sE))
      · exact HK.out _ s9.below
      · exact HK.out _ sE.below
end

end Go.Proofs.YtbpdchaeakihkaaGreat
