/- OverlayRefuses: the walk. Printed by mkRefW.py. -/
import Derived.Test.YtbpdchaeakihkaaGreatPaths
import Derived.Test.YtbpdchaeakihkaaGreatBeatW
namespace Go.Proofs.YtbpdchaeakihkaaGreat
open Go.RowKit Go.Qd

section
variable {W w : World} {post : Ending → World → Prop}
theorem execOp_load77 (ρ : Operand → Value) (dst : Option Tmp) (a : Operand) (ty : TypeId) (pos : String) (after : Array Edge) (guard : Option (Nat × Bool)) :
    execOp ρ { dst, op := .load 77 a, type := ty, pos, after, guard } = (do pure (.value (← loadG 77 (ρ a)))) := rfl
attribute [local go_sem ↓] execOp_load23 execOp_load77

theorem oact_c {P : Nat} {q : OAct} {R : List HP} (s : St W w (row P 0 q.cells :: R)) : w.cell? ⟨P, 0, none⟩ = some (.int .i64 q.kind) ∧ w.cell? ⟨P, 1, none⟩ = some (.int .i64 q.peer) := by
  have c0 := s.rowCell (i := 0) (v := .int .i64 q.kind) rfl
  have c1 := s.rowCell (i := 1) (v := .int .i64 q.peer) rfl
  rw [Nat.zero_add] at c1
  exact ⟨c0, c1⟩

set_option maxRecDepth 100000 in
set_option maxHeartbeats 16000000 in
theorem overlayRefuses_c {self : Int} {c : List Int} {da la : Option Addr} {dn dc ln lc : Nat} {draws : List Int} {l : List OAct} (hc : c.length = 20) (hd : RdS W 1 da dn dc (ivs draws)) (hl : RdS W 14 la ln lc (oactC l)) (hr : ∀ x ∈ l, x.m.reads W x.ks x.es)
    (K : ∀ W2, Below W.heap.size W W2 → post (.returned (.bool true)) W2) :
    Calls Tryz.prog 6 #[.int .i64 self, .agg (ivs c).toArray, .slice da dn dc, .slice la ln lc] W post := by
  have HK := hid K; clear K
  have HC := hid hc
  have HL0 : Hid (0 < c.length) := hid (by omega)
  have HD := hid hd; have HLR := hid hl; have HRD := hid hr
  obtain ⟨rb, hrb⟩ : ∃ rb, rightB c = rb := ⟨_, rfl⟩
  have HR := hid hrb
  obtain ⟨nn, hnn⟩ : ∃ nn, c.getD 0 0 = nn := ⟨_, rfl⟩
  have HNN := hid hnn
  have HLN : Hid (l.length = ln) := hid (oactC_ln hl)
  have st := St.init W
  clear hd hl hr hc
  by_cases hq : rb = true ∧ 0 ≤ self ∧ self < nn
  · obtain ⟨rfl, hp1, hp2⟩ := hq
    have HLI0 : Hid (LI c self 0 (newO c self draws)) := hid (LI.new HC.out hrb ⟨hp1, by rw [hnn]; exact hp2⟩)
    have k1 : decide (self < 0) = false := decide_eq_false (by omega)
    have k2 : decide (nn ≤ self) = false := decide_eq_false (by omega)
    have HSF : Hid (0 ≤ self ∧ self < c.getD 0 0) := hid ⟨hp1, by rw [hnn]; exact hp2⟩
    clear hrb hnn hp1 hp2
    go_enter Tryz.func6, Tryz.ntmps6
    go_wp2_with (first
      | (replace st := hid st; refine wpl_boxA (vs := ivs c) rfl (.tmp 1) rfl rfl st.out ?_; rintro T w1 s1; clear st)
      | (go_at_call 10; first
          | (refine speaks_c s3 ?_; rintro w9 s9)
          | (refine speaks_c s1 ?_; rintro w2 s2))
      | (go_at_call 23; refine few17_c s2 (HLR.out.rds _) HRD.out ?_; rintro w3 fb s3 hfb; have HFB := hid hfb; clear hfb; have l3 := ldC HC.out s3)
      | (go_at_call 11; refine right_c s3 HC.out ?_; rintro w4 s4; rw [HR.out]; have l4 := ldC HC.out s4; have c0 := cfg_at s4 HL0.out; rw [HNN.out] at c0)
      | (go_at_call 14; refine new_c (zs := draws) s4 (HD.out.st s4) (by have hfb2 := HFB.out (by assumption); omega) ?_; rintro d w5 s5; have l5 := ldC HC.out (St.pick 1 s5))
      | (go_at_call 13; refine of_c s5 HC.out ?_; rintro w6 s6)
      | (go_at_call 12; refine onew_c s6 HC.out HR.out HSF.out ?_; rintro b w7 s7))
    · have HFW := hid (HFB.out (by assumption))
      have u : St W w7 [OvA b d (newO c self draws), row T 0 (ivs c)] := s7.sel [0, 1]
      have hln60 : ln ≤ 60 := HFW.out.1
      clear s1 s2 s3 s4 s5 s6 s7 l3 l4 l5 c0 HFB
      go_loopw [67] (fun ii wr => ∃ (i : Nat) (O : OV), i ≤ ln ∧ ii = .int .i64 i ∧ Hid (LI c self i O) ∧ St W wr [OvA b d O, row T 0 (ivs c)]) (fun ii _ => ln - (intOf ii).toNat)
      case atStart => exact ⟨0, _, Nat.zero_le _, rfl, HLI0, u⟩
      case round =>
        obtain ⟨i, O, hi, rfl, HLI, sr⟩ := hrel
        by_cases hlt : i < ln
        · have hi2 : (i : Int) < (ln : Int) := by omega
          have rd := HLR.out.st sr
          obtain ⟨g3, o3, rfl⟩ := rd.addr (by omega)
          have hiA : i < l.length := by rw [HLN.out]; exact hlt
          have ci := oactLd rd hiA
          have hq0 := HRD.out _ (List.getElem_mem hiA)
          have hf0 := HFW.out.2.2 _ (List.getElem_mem hiA)
          obtain ⟨q, hq⟩ : ∃ q, l[i] = q := ⟨_, rfl⟩
          rw [hq] at ci hq0 hf0
          have HQ := hid hq0; have HFQ := hid hf0
          have HPL := hid (reads_len hq0)
          have HSK := hid (HLI.out.sok (by omega))
          have HPA : Hid (O.V.a.length ≤ 4096 ∧ O.V.p.length ≤ 4096) := hid ⟨Nat.le_trans HLI.out.wk.ok.v.na4 (by decide), Nat.le_trans HLI.out.wk.ok.v.np4 (by decide)⟩
          have HFS : Hid (freshO O = O) := hid (fresh_same HLI.out.ll HLI.out.cc)
          clear hq rd hiA hq0 hf0
          go_wp2_with (first
            | (refine wpl_allocA rfl rfl zero_oact sr ?_; rintro P w8 s8)
            | (refine wpl_storeA (vs := q.cells) rfl (.tmp 13) (.tmp 70) (by rfl) agg_oact (by rfl) (by rfl) rfl (oact_one q) s8 rfl ?_; rintro w9 s9))
          simp only [Act.put, List.setIfInBounds_toArray, List.set_cons_succ, List.set_cons_zero]
          obtain ⟨v, t⟩ := OvA.open (St.pick 1 s9)
          go_cut [14, 15, 16] (fun x y z wx => ∃ (a1 a2 : Option Addr) (c1 c2 : Nat), x = .slice a1 O.V.a.length c1 ∧ y = .slice a2 O.V.p.length c2 ∧ z = .int .i64 O.D.length ∧ St W wx [OwnS 1 a1 O.V.a.length c1 (ivs O.V.a), OwnS 1 a2 O.V.p.length c2 (ivs O.V.p), OvA b d O, row P 0 q.cells, row T 0 (ivs c)])
          case first =>
            have u0 := t.drew
            have g0 := row1c u0
            go_region_held3 (fun w' => w'.cell? ⟨b, 0, none⟩ = some (.pointer (some ⟨v, 0, none⟩)))
              (first
                | with_reducible exact g3
                | with_reducible exact g2
                | with_reducible exact g1
                | with_reducible exact g0)
              (first
                | (go_at_call 16; first
                    | (refine active_c (St.pick 1 uP) HPA.out.1 ?_; rintro a1 c1 wQ uQ; have g3 := row1c (St.pick 3 uQ); have uF := (OvA.close (O := O) (v := v) (uQ.perm [3, 3, 3, 3, 3, 3, 1, 2])).perm [1, 1, 0])
                    | (refine active_c (St.pick 6 u0) HPA.out.1 ?_; rintro a1 c1 wA uA; have g1 := row1c (St.pick 2 uA)))
                | (go_at_call 21; first
                    | (refine passive_c (St.pick 1 uA) HPA.out.2 ?_; rintro a2 c2 wQ uQ; have g3 := row1c (St.pick 3 uQ); have uF := (OvA.close (O := O) (v := v) (uQ.perm [3, 3, 3, 3, 3, 3, 1, 2])).perm [2, 1, 0])
                    | (refine passive_c (St.pick 6 u0) HPA.out.2 ?_; rintro a2 c2 wP uP; have g2 := row1c (St.pick 2 uP)))
                | (go_at_call 25; first
                    | (refine left_c (St.pick 9 uQ) ?_)
                    | (refine left_c (St.pick 8 uA) ?_)
                    | (refine left_c (St.pick 8 uP) ?_)
                    | (refine left_c (St.pick 7 u0) ?_)))
            all_goals
              go_wp2_with fail
              go_meet
              case rel => exact ⟨_, _, _, _, rfl, rfl, rfl, uF⟩
          case rest =>
            obtain ⟨a1, a2, c1, c2, rfl, rfl, rfl, sA⟩ := hcut
            have lq : (loadG 77 (.pointer (some ⟨P, 0, none⟩))).run Tryz.prog _ = .ok (.agg q.cells.toArray) _ := run_loadG (o := 0) agg_oact rfl (St.pick 3 sA).rowAll
            clear t s9 s8
            go_wp2_with (first
              | (go_at_call 20; first
                  | (refine asked_c sB ?_; obtain ⟨v2, tB⟩ := OvA.open sB; have kB := row1c tB)
                  | (refine asked_c (St.pick 2 sA) ?_))
              | (go_at_call 24; refine run_c (x := q) (St.pick 2 sA) HSK.out.1 HSK.out.2.1 HSK.out.2.2 HQ.out HFQ.out ?_; rintro X e xa xn xc ya yn yc wB hst sB; have HST := hid (step_cases HLI.out HSF.out HPL.out hst); clear hst; rw [HNN.out] at HST
                 rcases HST.out with ⟨rfl, rfl, h1⟩ | ⟨rfl, rfl, h1, h2⟩ | ⟨rfl, rfl, h1, h2, h3⟩ | ⟨rfl, rfl, h1, h2, h3, h4⟩ | ⟨rfl, hli⟩ <;>
                 first
                   | (have HX := hid hli; clear hli HST)
                   | (clear HST
                      rw [HFS.out] at sB
                      have hx0 : xn = 0 := let0_rd (by have := OwnS.rd (St.pick 1 sB); rw [HLI.out.ll] at this; exact this)
                      have hy0 : yn = 0 := ch0_rd (by have := OwnS.rd (St.pick 2 sB); rw [HLI.out.cc] at this; exact this)
                      subst hx0 hy0))
              | (go_at_call 16; refine active_c (St.pick 6 tB) HPA.out.1 ?_; rintro a5 c5 wC sC)
              | (go_at_call 21; refine passive_c (St.pick 1 sD) HPA.out.2 ?_; rintro a6 c6 wE sE)
              | (go_at_call 26; first
                  | (refine same_c (OwnS.rd sE) (OwnS.rd (St.pick 14 sE)) ?_; rintro kk2; rw [decide_eq_true rfl]; have sF := sE.drewN kk2; obtain ⟨q0, q1⟩ := oact_c (St.pick 15 sF); have c0 := cfg_at (St.pick 16 sF) HL0.out; rw [HNN.out] at c0)
                  | (refine same_c (OwnS.rd sC) (OwnS.rd (St.pick 12 sC)) ?_; rintro kk1; rw [decide_eq_true rfl]; have sD := sC.drewN kk1; have kD := row1c (St.pick 2 sD)))
              | (go_at_call 25; refine left_c (St.pick 9 sF) ?_))
            all_goals
              go_roundw
              case rel => first
                | exact ⟨i + 1, _, by omega, by go_num, HX, sB.sel [0, 6]⟩
                | exact ⟨i + 1, _, by omega, by go_num, hid HLI.out.next, (OvA.close (v := v2) (sF.perm [3, 3, 3, 3, 3, 3, 1, 2])).sel [0, 8]⟩
              case measure => simp [intOf]; omega
        · have hie : i = ln := by omega
          subst hie
          go_wp2_with fail
          exact HK.out _ sr.below
    · exact HK.out _ s9.below
  · cases rb with
    | false =>
      clear hq hrb hnn
      go_enter Tryz.func6, Tryz.ntmps6
      go_wp2_with (first
        | (replace st := hid st; refine wpl_boxA (vs := ivs c) rfl (.tmp 1) rfl rfl st.out ?_; rintro T w1 s1; clear st)
        | (go_at_call 10; first
            | (refine speaks_c s4 ?_; rintro w9 s9)
            | (refine speaks_c s3 ?_; rintro w9 s9)
            | (refine speaks_c s1 ?_; rintro w2 s2))
        | (go_at_call 23; refine few17_c s2 (HLR.out.rds _) HRD.out ?_; rintro w3 fb s3 hfb; have HFB := hid hfb; clear hfb; have l3 := ldC HC.out s3)
        | (go_at_call 11; refine right_c s3 HC.out ?_; rintro w4 s4; rw [HR.out]))
      all_goals exact HK.out _ s9.below
    | true =>
      by_cases hp1 : 0 ≤ self
      · have k1 : decide (self < 0) = false := decide_eq_false (by omega)
        have k2 : decide (nn ≤ self) = true := decide_eq_true (by have : ¬ self < nn := fun h => hq ⟨rfl, hp1, h⟩; omega)
        clear hq hrb hnn hp1
        go_enter Tryz.func6, Tryz.ntmps6
        go_wp2_with (first
          | (replace st := hid st; refine wpl_boxA (vs := ivs c) rfl (.tmp 1) rfl rfl st.out ?_; rintro T w1 s1; clear st)
          | (go_at_call 10; first
              | (refine speaks_c s4 ?_; rintro w9 s9)
              | (refine speaks_c s3 ?_; rintro w9 s9)
              | (refine speaks_c s1 ?_; rintro w2 s2))
          | (go_at_call 23; refine few17_c s2 (HLR.out.rds _) HRD.out ?_; rintro w3 fb s3 hfb; have HFB := hid hfb; clear hfb; have l3 := ldC HC.out s3)
          | (go_at_call 11; refine right_c s3 HC.out ?_; rintro w4 s4; rw [HR.out]; have c0 := cfg_at s4 HL0.out; rw [HNN.out] at c0))
        all_goals exact HK.out _ s9.below
      · have k1 : decide (self < 0) = true := decide_eq_true (by omega)
        clear hq hrb hnn hp1
        go_enter Tryz.func6, Tryz.ntmps6
        go_wp2_with (first
          | (replace st := hid st; refine wpl_boxA (vs := ivs c) rfl (.tmp 1) rfl rfl st.out ?_; rintro T w1 s1; clear st)
          | (go_at_call 10; first
              | (refine speaks_c s4 ?_; rintro w9 s9)
              | (refine speaks_c s3 ?_; rintro w9 s9)
              | (refine speaks_c s1 ?_; rintro w2 s2))
          | (go_at_call 23; refine few17_c s2 (HLR.out.rds _) HRD.out ?_; rintro w3 fb s3 hfb; have HFB := hid hfb; clear hfb; have l3 := ldC HC.out s3)
          | (go_at_call 11; refine right_c s3 HC.out ?_; rintro w4 s4; rw [HR.out]))
        all_goals exact HK.out _ s9.below
end

end Go.Proofs.YtbpdchaeakihkaaGreat
