/- OverlayJoins: the walk. Printed by mkJoinW.py. -/
import Derived.Test.YtbpdchaeakihkaaGreatRefW
namespace Go.Proofs.YtbpdchaeakihkaaGreat
open Go.RowKit Go.Qd

theorem LI.step {c : List Int} {me : Int} {k : Nat} {O X : OV} {x : OAct} {e : Int} (h : LI c me k O) (hs : 0 ≤ me ∧ me < c.getD 0 0) (hl : x.m.ps.length = x.m.pn) (hst : StepR O x X e) : LI c me (k + 1) (freshO X) := by
  rcases step_path h.wk h.nm (h.self12 hs) hl hst with ⟨_, rfl, _⟩ | ⟨_, j, hj, hp⟩
  · rw [fresh_same h.ll h.cc]; exact h.next
  · exact h.path hj hp
theorem raise_in {O : OV} (w : WOK O) {p : Int} (hp : onodeB O p = true) : memB (raiseO O p).V.a p = true := by
  rw [(raiseO_V O p).1]
  by_cases hr : raiseOk O.V p = true
  · exact (raise_told w.ok.v hr).1
  · unfold raiseV; rw [if_neg hr]
    refine memB_yes (Classical.byContradiction fun g => hr ?_)
    exact raiseOk_iff.2 ⟨nodeB_iff.2 (there_lt w.ok (onode_there hp)), (onode_iff.1 hp).2.2, g⟩
theorem take1_in {O : OV} (w : WOK O) {p : Int} (hp : onodeB O p = true) : memB (take1O O p).V.a p = true := by
  have g := path_heard hp
  exact raise_in (g.wok w) (by rw [onode_same g.same.c g.same.s]; exact hp)
theorem fits_join {O : OV} (w : WOK O) : fitsB O (kindM 1) 1 = true := by
  unfold fitsB
  have h1 : goodB (kindM 1) 1 = true := by kernel_rfl
  have h2 : thereB O (kindM 1).peer = true := by
    have := w.ok.nodes
    unfold thereB
    simp only [Bool.and_eq_true, decide_eq_true_eq]
    exact ⟨Int.le_refl 0, by show (0 : Int) < _; omega⟩
  rw [h1, h2]; rfl
theorem let_last {w : World} {B p n ln lc : Nat} {L : List LetV} {x : LetV} (rd : RdS w 13 (some ⟨B, p, none⟩) ln lc (letC (L ++ [x]))) (hn : L.length = n) :
    w.cell? ⟨B, p + n * 13, none⟩ = some (.int .i64 x.to) ∧ w.cell? ⟨B, p + n * 13 + 1, none⟩ = some (.int .i64 x.m.kind) ∧ (loadG 58 (.pointer (some ⟨B, p + n * 13 + 1, none⟩))).run Tryz.prog w = .ok (.agg x.m.cells.toArray) w := by
  have e : letC (L ++ [x]) = letC L ++ x.cells := letC_snoc L x
  have hl : (letC L).length = n * 13 := by rw [letC_size, hn]
  have g : ∀ j u, x.cells[j]? = some u → (letC (L ++ [x]))[n * 13 + j]? = some u := fun j u hu => by
    rw [e, List.getElem?_append_right (by omega), hl, Nat.add_sub_cancel_left]; exact hu
  refine ⟨rd.at (by have := g 0 (.int .i64 x.to) rfl; rwa [Nat.add_zero] at this), rd.at2 (g 1 (.int .i64 x.m.kind) rfl), ?_⟩
  refine run_loadG agg58 rfl (fun j u hu => ?_)
  have := rd.at2 (i := n * 13) (j := 1 + j) (u := u) (by
    have := g (1 + j) u (by rw [Nat.add_comm]; exact hu)
    exact this)
  rwa [← Nat.add_assoc] at this

section
variable {W w : World} {post : Ending → World → Prop}
attribute [local go_sem ↓] execOp_load23 execOp_load77 execOp_load58

set_option maxRecDepth 100000 in
set_option maxHeartbeats 16000000 in
theorem overlayJoins_c {peer : Int} {c : List Int} {da la : Option Addr} {dn dc ln lc : Nat} {draws : List Int} {l : List OAct} (hc : c.length = 20) (hd : RdS W 1 da dn dc (ivs draws)) (hl : RdS W 14 la ln lc (oactC l)) (hr : ∀ x ∈ l, x.m.reads W x.ks x.es)
    (K : ∀ W2, Below W.heap.size W W2 → post (.returned (.bool true)) W2) :
    Calls Tryz.prog 5 #[.agg (ivs c).toArray, .slice da dn dc, .slice la ln lc, .int .i64 peer] W post := by
  have HK := hid K; clear K
  have HC := hid hc
  have HL0 : Hid (0 < c.length) := hid (by omega)
  have HD := hid hd; have HLR := hid hl; have HRD := hid hr
  obtain ⟨rb, hrb⟩ : ∃ rb, rightB c = rb := ⟨_, rfl⟩
  have HR := hid hrb
  obtain ⟨nn, hnn⟩ : ∃ nn, c.getD 0 0 = nn := ⟨_, rfl⟩
  have HNN := hid hnn
  have HLN : Hid (l.length = ln) := hid (oactC_ln hl)
  have st := St.init W
  clear hd hl hr hc
  by_cases hq : rb = true ∧ 1 ≤ peer ∧ peer < nn
  · obtain ⟨rfl, hp1, hp2⟩ := hq
    have hs0 : 0 ≤ (0 : Int) ∧ (0 : Int) < c.getD 0 0 := ⟨Int.le_refl _, by rw [hnn]; omega⟩
    have hsp : 0 ≤ peer ∧ peer < c.getD 0 0 := ⟨by omega, by rw [hnn]; exact hp2⟩
    have HLA0 : Hid (LI c 0 0 (newO c 0 draws)) := hid (LI.new HC.out hrb hs0)
    have HLB0 : Hid (LI c peer 0 (newO c peer draws)) := hid (LI.new HC.out hrb hsp)
    have HS0 := hid hs0; have HSP := hid hsp
    have HP1 := hid hp1
    have k1 : decide (peer < 1) = false := decide_eq_false (by omega)
    have k2 : decide (nn ≤ peer) = false := decide_eq_false (by omega)
    clear hrb hnn hp1 hp2 hs0 hsp
    go_enter Tryz.func5, Tryz.ntmps5
    go_wp2_with (first
      | (replace st := hid st; refine wpl_boxA (vs := ivs c) rfl (.tmp 0) rfl rfl st.out ?_; rintro T w1 s1; clear st)
      | (go_at_call 10; first
          | (refine speaks_c s3 ?_; rintro w9 s9)
          | (refine speaks_c s1 ?_; rintro w2 s2))
      | (go_at_call 23; refine few17_c s2 (HLR.out.rds _) HRD.out ?_; rintro w3 fb s3 hfb; have HFB := hid hfb; clear hfb; have l3 := ldC HC.out s3)
      | (go_at_call 11; refine right_c s3 HC.out ?_; rintro w4 s4; rw [HR.out]; have l4 := ldC HC.out s4; have c0 := cfg_at s4 HL0.out; rw [HNN.out] at c0)
      | (go_at_call 13; first
          | (refine of_c s7 HC.out ?_; rintro w8 s8)
          | (refine of_c s4 HC.out ?_; rintro w5 s5))
      | (go_at_call 14; first
          | (refine new_c (zs := draws) s8 (HD.out.st s8) (by have hfb2 := HFB.out (by assumption); omega) ?_; rintro d2 wA sA)
          | (refine new_c (zs := draws) s5 (HD.out.st s5) (by have hfb2 := HFB.out (by assumption); omega) ?_; rintro d w6 s6))
      | (go_at_call 12; first
          | (refine onew_c sA HC.out HR.out HSP.out ?_; rintro b2 wB sB)
          | (refine onew_c s6 HC.out HR.out HS0.out ?_; rintro b w7 s7; have l7 := ldC HC.out (St.pick 1 s7))))
    · have HFW := hid (HFB.out (by assumption))
      have u : St W wB [OvA b d (newO c 0 draws), OvA b2 d2 (newO c peer draws), row T 0 (ivs c)] := sB.perm [1, 0]
      have hln60 : ln ≤ 60 := HFW.out.1
      clear s1 s2 s3 s4 s5 s6 s7 s8 sA sB l3 l4 l7 c0 HFB
      go_loopw [78] (fun ii wr => ∃ (i : Nat) (A B : OV), i ≤ ln ∧ ii = .int .i64 i ∧ Hid (LI c 0 i A ∧ LI c peer i B) ∧ St W wr [OvA b d A, OvA b2 d2 B, row T 0 (ivs c)]) (fun ii _ => ln - (intOf ii).toNat)
      case atStart => exact ⟨0, _, _, Nat.zero_le _, rfl, hid ⟨HLA0.out, HLB0.out⟩, u⟩
      case round =>
        obtain ⟨i, A, B, hi, rfl, HLI, sr⟩ := hrel
        by_cases hlt : i < ln
        · have hi2 : (i : Int) < (ln : Int) := by omega
          have rd := HLR.out.st sr
          obtain ⟨g3, o3, rfl⟩ := rd.addr (by omega)
          have hiA : i < l.length := by rw [HLN.out]; exact hlt
          have ci := oactLd rd hiA
          have hq0 := HRD.out _ (List.getElem_mem hiA)
          have hf0 := HFW.out.2.2 _ (List.getElem_mem hiA)
          obtain ⟨q, hq⟩ : ∃ q, l[i] = q := ⟨_, rfl⟩
          rw [hq] at ci hq0 hf0
          have HQ := hid hq0; have HFQ := hid hf0
          have HPL := hid (reads_len hq0)
          have HSA := hid (HLI.out.1.sok (by omega))
          have HSB := hid (HLI.out.2.sok (by omega))
          clear hq rd hiA hq0 hf0
          go_wp2_with (first
            | (refine wpl_allocA rfl rfl zero_oact sr ?_; rintro P w8 s8)
            | (refine wpl_storeA (vs := q.cells) rfl (.tmp 14) (.tmp 81) (by rfl) agg_oact (by rfl) (by rfl) rfl (oact_one q) s8 rfl ?_; rintro w9 s9
               have lq : (loadG 77 (.pointer (some ⟨P, 0, none⟩))).run Tryz.prog w9 = .ok (.agg q.cells.toArray) w9 := run_loadG (o := 0) agg_oact rfl s9.rowAll)
            | (go_at_call 24; first
                | (refine run_c (x := q) (St.pick 2 sX) HSB.out.1 HSB.out.2.1 HSB.out.2.2 HQ.out HFQ.out ?_; rintro Y e2 xa2 xn2 xc2 ya2 yn2 yc2 wD hst2 sD; have HSTB := hid hst2; clear hst2)
                | (refine run_c (x := q) (St.pick 1 s9) HSA.out.1 HSA.out.2.1 HSA.out.2.2 HQ.out HFQ.out ?_; rintro X e xa xn xc ya yn yc wC hst sC; have HSTA := hid hst; clear hst
                   have sX : St W wC [OvA b d (freshO X), row P 0 q.cells, OvA b2 d2 B, row T 0 (ivs c)] := sC.sel [0, 3, 3, 3]
                   have lq2 : (loadG 77 (.pointer (some ⟨P, 0, none⟩))).run Tryz.prog wC = .ok (.agg q.cells.toArray) wC := run_loadG (o := 0) agg_oact rfl (St.pick 1 sX).rowAll)))
          go_roundw
          case rel => exact ⟨i + 1, freshO X, freshO Y, by omega, by go_num, hid ⟨HLI.out.1.step HS0.out HPL.out HSTA.out, HLI.out.2.step HSP.out HPL.out HSTB.out⟩, sD.sel [4, 0, 4]⟩
          case measure => simp [intOf]; omega
        · have hie : i = ln := by omega
          subst hie
          have HNA : Hid (onodeB A peer = true) := hid (onode_iff.2 ⟨by have := HP1.out; omega, by rw [HLI.out.1.cf]; exact HSP.out.2, by rw [HLI.out.1.sl]; have := HP1.out; omega⟩)
          have HNB : Hid (onodeB B 0 = true) := hid (onode_iff.2 ⟨Int.le_refl _, by rw [HLI.out.2.cf]; exact HS0.out.2, by rw [HLI.out.2.sl]; have := HP1.out; omega⟩)
          have HAL : Hid (A.L.length ≤ 100 ∧ A.C.length ≤ 100) := hid ⟨by rw [HLI.out.1.ll]; decide, by rw [HLI.out.1.cc]; decide⟩
          have HBL : Hid (B.L.length ≤ 100 ∧ B.C.length ≤ 100) := hid ⟨by rw [HLI.out.2.ll]; decide, by rw [HLI.out.2.cc]; decide⟩
          have HGA := hid (raise_in HLI.out.1.wk HNA.out)
          have HGB := hid (take1_in HLI.out.2.wk HNB.out)
          have HFJ := hid (fits_join HLI.out.2.wk)
          obtain ⟨L, hL⟩ : ∃ L, (raiseO A peer).L = L := ⟨_, rfl⟩
          obtain ⟨n, hn⟩ : ∃ n, L.length = n := ⟨_, rfl⟩
          have HLL := hid hL
          have HNL := hid hn
          have hn1 : n ≤ 1 := by have := raiseO_len A peer; rw [hL, HLI.out.1.ll] at this; simp at this; omega
          have HVA : Hid ((freshO (raiseO A peer)).V.a.length ≤ 4096) := hid (Nat.le_trans (HLI.out.1.wk.ok.raise peer).v.na4 (by decide))
          have HVB : Hid ((freshO (take1O B 0)).V.a.length ≤ 4096) := hid (by
            have := ((path_take1 HLI.out.2.wk HNB.out).wok HLI.out.2.wk).ok.v.na4
            exact Nat.le_trans this (by decide))
          clear hL hn
          go_wp2_with (first
            | (go_at_call 15; refine join_c sr HLI.out.1.wk.ok HNA.out HAL.out.1 HAL.out.2 ?_; rintro xa xn xc ya yn yc wC sC
               have rdl := OwnS.rd (St.pick 1 sC)
               unfold joinL at rdl
               rw [HLL.out] at rdl
               have hxn : xn = n + 1 := by have := rdl.len; rw [letC_size] at this; have h2 := HNL.out; simp at this; omega
               subst hxn
               have hw : IntKind.i64.wrap (((n + 1 : Nat) : Int) - 1) = (n : Int) := by rw [IntWalk.i64_in _ (by omega)]; omega
               have hw2 : IntKind.i64.wrap ((n : Int) + 1 - 1) = (n : Int) := by rw [IntWalk.i64_in _ (by omega)]; omega
               obtain ⟨B5, p5, rfl⟩ := rdl.addr (by omega)
               obtain ⟨m0, m1, m2⟩ := let_last rdl HNL.out
               have hi5 : (n : Int) < ((n + 1 : Nat) : Int) := by omega
               have hi6 : (n : Int) < (n : Int) + 1 := by omega
               have hz1 : ((n : Int) + 1 == 0) = false := by simp; omega
               have hz2 : ((n : Int) + 1 = 0) = False := by simp; omega)
            | (go_at_call 22; refine take1_c (O := B) (m := kindM 1) (St.pick 4 sC) HLI.out.2.wk.ok HNB.out rfl (fun w' _ => RdS.none0 w' 1) (by decide) HFJ.out HBL.out.1 HBL.out.2 ?_; rintro xa2 xn2 xc2 ya2 yn2 yc2 wD sD
               obtain ⟨v, t⟩ := OvA.open (St.pick 4 sD)
               have g1 := row1c t)
            | (go_at_call 16; first
                | (refine active_c (St.pick 6 t2) HVB.out ?_; rintro a7 c7 wF sF)
                | (refine active_c (St.pick 6 t) HVA.out ?_; rintro a6 c6 wE sE; obtain ⟨v2, t2⟩ := OvA.open (St.pick 9 sE); have g2 := row1c t2))
            | (go_at_call 19; first
                | (refine holds_c (OwnS.rd sF) ?_; rw [show memB (freshO (take1O B 0)).V.a 0 = true from HGB.out])
                | (refine holds_c (OwnS.rd sE) ?_; rw [show memB (freshO (raiseO A peer)).V.a peer = true from HGA.out])))
          exact HK.out _ sF.below
    · exact HK.out _ s9.below
  · cases rb with
    | false =>
      clear hq hrb hnn
      go_enter Tryz.func5, Tryz.ntmps5
      go_wp2_with (first
        | (replace st := hid st; refine wpl_boxA (vs := ivs c) rfl (.tmp 0) rfl rfl st.out ?_; rintro T w1 s1; clear st)
        | (go_at_call 10; first
            | (refine speaks_c s4 ?_; rintro w9 s9)
            | (refine speaks_c s3 ?_; rintro w9 s9)
            | (refine speaks_c s1 ?_; rintro w2 s2))
        | (go_at_call 23; refine few17_c s2 (HLR.out.rds _) HRD.out ?_; rintro w3 fb s3 hfb; have HFB := hid hfb; clear hfb; have l3 := ldC HC.out s3)
        | (go_at_call 11; refine right_c s3 HC.out ?_; rintro w4 s4; rw [HR.out]))
      all_goals exact HK.out _ s9.below
    | true =>
      by_cases hp1 : 1 ≤ peer
      · have k1 : decide (peer < 1) = false := decide_eq_false (by omega)
        have k2 : decide (nn ≤ peer) = true := decide_eq_true (by have : ¬ peer < nn := fun h => hq ⟨rfl, hp1, h⟩; omega)
        clear hq hrb hnn hp1
        go_enter Tryz.func5, Tryz.ntmps5
        go_wp2_with (first
          | (replace st := hid st; refine wpl_boxA (vs := ivs c) rfl (.tmp 0) rfl rfl st.out ?_; rintro T w1 s1; clear st)
          | (go_at_call 10; first
              | (refine speaks_c s4 ?_; rintro w9 s9)
              | (refine speaks_c s3 ?_; rintro w9 s9)
              | (refine speaks_c s1 ?_; rintro w2 s2))
          | (go_at_call 23; refine few17_c s2 (HLR.out.rds _) HRD.out ?_; rintro w3 fb s3 hfb; have HFB := hid hfb; clear hfb; have l3 := ldC HC.out s3)
          | (go_at_call 11; refine right_c s3 HC.out ?_; rintro w4 s4; rw [HR.out]; have c0 := cfg_at s4 HL0.out; rw [HNN.out] at c0))
        all_goals exact HK.out _ s9.below
      · have k1 : decide (peer < 1) = true := decide_eq_true (by omega)
        clear hq hrb hnn hp1
        go_enter Tryz.func5, Tryz.ntmps5
        go_wp2_with (first
          | (replace st := hid st; refine wpl_boxA (vs := ivs c) rfl (.tmp 0) rfl rfl st.out ?_; rintro T w1 s1; clear st)
          | (go_at_call 10; first
              | (refine speaks_c s4 ?_; rintro w9 s9)
              | (refine speaks_c s3 ?_; rintro w9 s9)
              | (refine speaks_c s1 ?_; rintro w2 s2))
          | (go_at_call 23; refine few17_c s2 (HLR.out.rds _) HRD.out ?_; rintro w3 fb s3 hfb; have HFB := hid hfb; clear hfb; have l3 := ldC HC.out s3)
          | (go_at_call 11; refine right_c s3 HC.out ?_; rintro w4 s4; rw [HR.out]))
        all_goals exact HK.out _ s9.below
end

end Go.Proofs.YtbpdchaeakihkaaGreat
