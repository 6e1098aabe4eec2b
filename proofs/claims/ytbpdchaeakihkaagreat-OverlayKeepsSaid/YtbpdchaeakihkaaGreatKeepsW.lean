/- OverlayKeeps: the walk. Printed by mkKeepsW.py. -/
import Derived.Test.YtbpdchaeakihkaaGreatJoinW
import Derived.Test.YtbpdchaeakihkaaGreatTellL
import Derived.Test.YtbpdchaeakihkaaGreatKnownL
namespace Go.Proofs.YtbpdchaeakihkaaGreat
open Go.RowKit Go.Qd

def roomyB (c : List Int) : Bool := rightB c && decide (c.getD 0 0 - 1 ≤ c.getD 6 0)
section
variable {W w : World} {R : List HP} {post : Ending → World → Prop} {c : List Int}
set_option maxRecDepth 100000 in
set_option maxHeartbeats 1000000 in
theorem roomy_c (st : St W w R) (hc : c.length = 20) (K : ∀ w', St W w' R → post (.returned (.bool (roomyB c))) w') : Calls Tryz.prog 31 #[.agg (ivs c).toArray] w post := by
  unfold roomyB at K
  have HC := hid hc; clear hc
  have HL0 : Hid (0 < c.length) := hid (by rw [HC.out]; decide)
  have HL6 : Hid (6 < c.length) := hid (by rw [HC.out]; decide)
  obtain ⟨rb, hrb⟩ : ∃ rb, rightB c = rb := ⟨_, rfl⟩
  rw [hrb] at K
  cases rb with
  | false =>
    simp only [Bool.false_and] at K
    have HK := hid K; clear K
    have HRB := hid hrb
    clear hrb
    go_enter Tryz.func31, Tryz.ntmps31
    go_wp2_with (first
      | (refine wpl_boxA (vs := ivs c) rfl (.tmp 0) rfl rfl st ?_; rintro T w0 s0)
      | (refine wpl_loadA (vs := ivs c) rfl (.tmp 1) (by rfl) agg23 (by rfl) (ivs_len20 HC.out) s0.rowAll ?_)
      | (go_at_call 11; refine right_c s0 HC.out ?_; rintro w1 s1; rw [HRB.out]))
    exact HK.out _ s1.drop
  | true =>
    simp only [Bool.true_and] at K
    have hb := (cfg_views HC.out hrb).2.2
    have HRB := hid hrb
    obtain ⟨n0, h0⟩ : ∃ x, c.getD 0 0 = x := ⟨_, rfl⟩
    obtain ⟨n6, h6⟩ : ∃ x, c.getD 6 0 = x := ⟨_, rfl⟩
    have H0 := hid h0; have H6 := hid h6
    rw [h0] at hb
    rw [h0, h6] at K
    have hw : IntKind.i64.wrap (n0 - 1) = n0 - 1 := IntWalk.i64_in _ (by omega)
    have HK := hid K; clear K
    clear hrb h0 h6
    go_enter Tryz.func31, Tryz.ntmps31
    go_wp2_with (first
      | (refine wpl_boxA (vs := ivs c) rfl (.tmp 0) rfl rfl st ?_; rintro T w0 s0)
      | (refine wpl_loadA (vs := ivs c) rfl (.tmp 1) (by rfl) agg23 (by rfl) (ivs_len20 HC.out) s0.rowAll ?_)
      | (go_at_call 11; refine right_c s0 HC.out ?_; rintro w1 s1; rw [HRB.out]; have c0 := cfg_at s1 HL0.out; rw [H0.out] at c0; have c6 := cfg_at s1 HL6.out; rw [H6.out] at c6))
    exact HK.out _ s1.drop
end

section
variable {W w : World} {post : Ending → World → Prop}
attribute [local go_sem ↓] execOp_load23 execOp_load77

set_option maxRecDepth 100000 in
set_option maxHeartbeats 16000000 in
theorem overlayKeeps_c {self : Int} {c : List Int} {da la : Option Addr} {dn dc ln lc : Nat} {draws : List Int} {l : List OAct} (hc : c.length = 20) (hd : RdS W 1 da dn dc (ivs draws)) (hl : RdS W 14 la ln lc (oactC l)) (hr : ∀ x ∈ l, x.m.reads W x.ks x.es)
    (K : ∀ W2, Below W.heap.size W W2 → post (.returned (.bool true)) W2) :
    Calls Tryz.prog 8 #[.int .i64 self, .agg (ivs c).toArray, .slice da dn dc, .slice la ln lc] W post := by
  have HK := hid K; clear K
  have HC := hid hc
  have HL0 : Hid (0 < c.length) := hid (by omega)
  have HD := hid hd; have HLR := hid hl; have HRD := hid hr
  obtain ⟨rb, hrb⟩ : ∃ rb, roomyB c = rb := ⟨_, rfl⟩
  have HR := hid hrb
  obtain ⟨nn, hnn⟩ : ∃ nn, c.getD 0 0 = nn := ⟨_, rfl⟩
  have HNN := hid hnn
  have HLN : Hid (l.length = ln) := hid (oactC_ln hl)
  have st := St.init W
  clear hd hl hr hc
  by_cases hq : rb = true ∧ 0 ≤ self ∧ self < nn
  · obtain ⟨rfl, hp1, hp2⟩ := hq
    have hrm : rightB c = true ∧ c.getD 0 0 - 1 ≤ c.getD 6 0 := by
      have := hrb; unfold roomyB at this; simpa using this
    have HRT := hid hrm.1
    have HRM := hid hrm.2
    have HLI0 : Hid (LX c self 0 (newO c self draws)) := hid (LX.new HC.out hrm.1 ⟨hp1, by rw [hnn]; exact hp2⟩)
    have k1 : decide (self < 0) = false := decide_eq_false (by omega)
    have k2 : decide (nn ≤ self) = false := decide_eq_false (by omega)
    have HSF : Hid (0 ≤ self ∧ self < c.getD 0 0) := hid ⟨hp1, by rw [hnn]; exact hp2⟩
    clear hrb hnn hp1 hp2 hrm
    go_enter Tryz.func8, Tryz.ntmps8
    go_wp2_with (first
      | (replace st := hid st; refine wpl_boxA (vs := ivs c) rfl (.tmp 1) rfl rfl st.out ?_; rintro T w1 s1; clear st)
      | (go_at_call 10; first
          | (refine speaks_c s3 ?_; rintro w9 s9)
          | (refine speaks_c s1 ?_; rintro w2 s2))
      | (go_at_call 23; refine few17_c s2 (HLR.out.rds _) HRD.out ?_; rintro w3 fb s3 hfb; have HFB := hid hfb; clear hfb; have l3 := ldC HC.out s3)
      | (go_at_call 31; refine roomy_c s3 HC.out ?_; rintro w4 s4; rw [HR.out]; have l4 := ldC HC.out s4; have c0 := cfg_at s4 HL0.out; rw [HNN.out] at c0)
      | (go_at_call 14; refine new_c (zs := draws) s5 (HD.out.st s5) (by have hfb2 := HFB.out (by assumption); omega) ?_; rintro d w6 s6)
      | (go_at_call 13; refine of_c s4 HC.out ?_; rintro w5 s5)
      | (go_at_call 12; refine onew_c s6 HC.out HRT.out HSF.out ?_; rintro b w7 s7; have l5 := True.intro))
    · have HFW := hid (HFB.out (by assumption))
      have u : St W w7 [OvA b d (newO c self draws), OwnS 1 none 0 0 (ivs []), row T 0 (ivs c)] := (OwnS.none0 (sz := 1) (s7.sel [0, 1])).perm [1, 0]
      have hln60 : ln ≤ 60 := HFW.out.1
      clear s1 s2 s3 s4 s5 s6 s7 l3 l4 l5 c0 HFB
      go_loopw [11, 67] (fun ws ii wr => ∃ (i : Nat) (O : OV) (aw : Option Addr) (nw cw : Nat) (Wl : List Int), i ≤ ln ∧ ws = .slice aw nw cw ∧ ii = .int .i64 i ∧ Hid (LX c self i O ∧ ∀ y ∈ Wl, inV O.V y) ∧ St W wr [OvA b d O, OwnS 1 aw nw cw (ivs Wl), row T 0 (ivs c)]) (fun _ ii _ => ln - (intOf ii).toNat)
      case atStart => exact ⟨0, _, none, 0, 0, [], Nat.zero_le _, rfl, rfl, hid ⟨HLI0.out, fun _ h => by cases h⟩, u⟩
      case round =>
        obtain ⟨i, O, aw, nw, cw, Wl, hi, rfl, rfl, HLI, sr⟩ := hrel
        by_cases hlt : i < ln
        · have hi2 : (i : Int) < (ln : Int) := by omega
          have rd := HLR.out.st sr
          obtain ⟨g3, o3, rfl⟩ := rd.addr (by omega)
          have hiA : i < l.length := by rw [HLN.out]; exact hlt
          have ci := oactLd rd hiA
          have hq0 := HRD.out _ (List.getElem_mem hiA)
          have hf0 := HFW.out.2.2 _ (List.getElem_mem hiA)
          obtain ⟨q, hq⟩ : ∃ q, l[i] = q := ⟨_, rfl⟩
          rw [hq] at ci hq0 hf0
          have HQ := hid hq0; have HFQ := hid hf0
          have HPL := hid (reads_len hq0)
          have HSK := hid (HLI.out.1.li.sok (by omega))
          have HWL : Hid (Wl.length = nw) := hid (ivs_len (OwnS.rd (St.pick 1 sr)))
          clear hq rd hiA hq0 hf0
          go_wp2_with (first
            | (refine wpl_allocA rfl rfl zero_oact sr ?_; rintro P w8 s8)
            | (refine wpl_storeA (vs := q.cells) rfl (.tmp 13) (.tmp 70) (by rfl) agg_oact (by rfl) (by rfl) rfl (oact_one q) s8 rfl ?_; rintro w9 s9
               have lq : (loadG 77 (.pointer (some ⟨P, 0, none⟩))).run Tryz.prog w9 = .ok (.agg q.cells.toArray) w9 := run_loadG (o := 0) agg_oact rfl s9.rowAll)
            | (go_at_call 24; refine run_c (x := q) (St.pick 1 s9) HSK.out.1 HSK.out.2.1 HSK.out.2.2 HQ.out HFQ.out ?_; rintro X e xa xn xc ya yn yc wB hst sB
               have HX := hid (HLI.out.1.step HSF.out HPL.out hst)
               have HKP := hid (HLI.out.1.keep HSF.out HRM.out HPL.out hst)
               clear hst
               have sC : St W wB [OvA b d (freshO X), row P 0 q.cells, OwnS 1 aw nw cw (ivs Wl), row T 0 (ivs c)] := sB.sel [0, 3, 3, 3]
               obtain ⟨v, tC⟩ := OvA.open sC
               have kC := row1c tC)
            | (go_at_call 30; refine knownL_known (St.pick 6 tC) HX.out.li.wk.ok.v ?_; rintro a6 c6 w6 s6))
          have HSUB : Hid (∀ y ∈ Wl, y ∈ knownL (freshO X).V) := hid (fun y hy => mem_knownL.2 (HKP.out.1 y (HLI.out.2 y hy)))
          have HASK : Hid (e = 0 → q.kind = 0 ∨ q.kind = 2 ∨ q.kind = 3 → q.peer ∈ knownL (freshO X).V) := hid (fun he hk => mem_knownL.2 (HKP.out.2 he hk))
          have HALL : Hid (∀ y ∈ knownL (freshO X).V, inV (freshO X).V y) := hid (fun y hy => mem_knownL.1 hy)
          obtain ⟨Kl, hKl⟩ : ∃ Kl, knownL (freshO X).V = Kl := ⟨_, rfl⟩
          rw [hKl] at HSUB HASK HALL s6
          have hkb : Kl.length ≤ 200 := by rw [← hKl, knownL_len]; have := HX.out.li.wk.ok.v.la; have := HX.out.li.wk.ok.v.am; have := HX.out.li.wk.ok.v.lp; have := HX.out.li.wk.ok.v.pm; omega
          rw [hKl]
          obtain ⟨kn, hkn⟩ : ∃ kn, Kl.length = kn := ⟨_, rfl⟩
          have HKN := hid hkn
          rw [hkn] at s6 hkb ⊢
          have s7 : St W w6 [OwnS 1 a6 kn c6 (ivs Kl), OwnS 1 aw nw cw (ivs Wl), OvA b d (freshO X), row P 0 q.cells, row T 0 (ivs c)] := ((OvA.close (O := freshO X) (v := v) (s6.perm [2, 2, 2, 2, 2, 2, 1, 1])).perm [1, 2, 0])
          have hnwb := (OwnS.rd (St.pick 1 s7)).big
          clear hkn hKl s6 tC sC sB s9 s8 sr kC
          go_wp2_with fail
          go_loopw [85] (fun jj wx => ∃ j : Nat, j ≤ nw ∧ jj = .int .i64 j ∧ St W wx [OwnS 1 a6 kn c6 (ivs Kl), OwnS 1 aw nw cw (ivs Wl), OvA b d (freshO X), row P 0 q.cells, row T 0 (ivs c)]) (fun jj _ => nw - (intOf jj).toNat)
          case atStart => exact ⟨0, Nat.zero_le _, rfl, s7⟩
          case round =>
            obtain ⟨j, hj, rfl, sj⟩ := hrel
            by_cases hjl : j < nw
            · have rdw := OwnS.rd (St.pick 1 sj)
              obtain ⟨g7, o7, rfl⟩ := rdw.addr (by omega)
              have hjW : j < Wl.length := by rw [HWL.out]; exact hjl
              have cj := rdw.at (ivs_get hjW)
              have hin := anyEq_all (HSUB.out Wl[j] (List.getElem_mem hjW))
              obtain ⟨n, hn⟩ : ∃ n, Wl[j] = n := ⟨_, rfl⟩
              rw [hn] at cj hin
              have HIN := hid hin
              clear hn rdw hin
              go_wp2_with fail
              go_loopw [20, 91] (fun uv ii wx => ∃ t : Nat, t ≤ kn ∧ ii = .int .i64 t ∧ uv = .bool (anyEq (Kl.take t) n) ∧ St W wx [OwnS 1 a6 kn c6 (ivs Kl), OwnS 1 (some ⟨g7, o7, none⟩) nw cw (ivs Wl), OvA b d (freshO X), row P 0 q.cells, row T 0 (ivs c)]) (fun _ ii _ => kn - (intOf ii).toNat)
              case atStart => exact ⟨0, Nat.zero_le _, rfl, rfl, sj⟩
              case round =>
                obtain ⟨t, ht, rfl, rfl, sz⟩ := hrel
                by_cases htl : t < kn
                · have rdk := OwnS.rd sz
                  obtain ⟨g6, o6, rfl⟩ := rdk.addr (by omega)
                  have htK : t < Kl.length := by rw [HKN.out]; exact htl
                  have ct := rdk.at (ivs_get htK)
                  have hst := anyEq_snoc htK n
                  obtain ⟨m, hm⟩ : ∃ m, Kl[t] = m := ⟨_, rfl⟩
                  rw [hm] at ct hst
                  obtain ⟨bb, hbb⟩ : ∃ bb, anyEq (Kl.take t) n = bb := ⟨_, rfl⟩
                  rw [hbb] at hst ⊢
                  have HST := hid hst
                  clear hm hst hbb rdk
                  cases bb with
                  | true =>
                    go_wp2
                    go_roundw
                    case rel => exact ⟨t + 1, by omega, by go_num, by rw [HST.out]; rfl, sz⟩
                    case measure => simp [intOf]; omega
                  | false =>
                    by_cases hmn : m = n
                    · have hne : (m == n) = true := by simpa using hmn
                      have hne2 : (n == m) = true := by simpa using hmn.symm
                      have HNE := hid hne
                      clear hmn
                      go_wp2
                      go_roundw
                      case rel => exact ⟨t + 1, by omega, by go_num, by rw [HST.out, HNE.out]; rfl, sz⟩
                      case measure => simp [intOf]; omega
                    · have hne : (m == n) = false := by simpa using hmn
                      have hne2 : (n == m) = false := by simpa using fun h => hmn h.symm
                      have HNE := hid hne
                      clear hmn
                      go_wp2
                      go_roundw
                      case rel => exact ⟨t + 1, by omega, by go_num, by rw [HST.out, HNE.out]; rfl, sz⟩
                      case measure => simp [intOf]; omega
                · have hte : t = kn := by omega
                  subst hte
                  have htk : Kl.take t = Kl := List.take_of_length_le (by rw [HKN.out]; exact Nat.le_refl _)
                  rw [htk, HIN.out]
                  clear htk
                  go_wp2
                  go_roundw
                  case rel => exact ⟨j + 1, by omega, by go_num, sz⟩
                  case measure => simp [intOf]; omega
            · have hje : nw = j := by omega
              subst hje
              obtain ⟨q0, q1⟩ := oact_c (St.pick 3 sj)
              have goOn : Hid (LX c self (i + 1) (freshO X) ∧ ∀ y ∈ Kl, inV (freshO X).V y) := hid ⟨HX.out, HALL.out⟩
              have sF : St W _ [OvA b d (freshO X), OwnS 1 a6 kn c6 (ivs Kl), row T 0 (ivs c)] := sj.sel [2, 0, 2]
              by_cases hek : e = 0 ∧ (q.kind = 0 ∨ q.kind = 2 ∨ q.kind = 3)
              · obtain ⟨rfl, hk⟩ := hek
                have HIN := hid (anyEq_all (HASK.out rfl hk))
                obtain ⟨n, hn⟩ : ∃ n, q.peer = n := ⟨_, rfl⟩
                rw [hn] at HIN q1
                have HPE := hid hn
                obtain ⟨kd, hkd⟩ : ∃ kd, q.kind = kd := ⟨_, rfl⟩
                rw [hkd] at q0 hk
                have HKD := hid hkd
                clear hn hkd
                rcases hk with rfl | rfl | rfl
                all_goals
                  go_wp2_with fail
                  go_loopw [23, 124] (fun uv ii wx => ∃ t : Nat, t ≤ kn ∧ ii = .int .i64 t ∧ uv = .bool (anyEq (Kl.take t) n) ∧ St W wx [OwnS 1 a6 kn c6 (ivs Kl), OwnS 1 aw nw cw (ivs Wl), OvA b d (freshO X), row P 0 q.cells, row T 0 (ivs c)]) (fun _ ii _ => kn - (intOf ii).toNat)
                  case atStart => exact ⟨0, Nat.zero_le _, rfl, rfl, sj⟩
                  case round =>
                    obtain ⟨t, ht, rfl, rfl, sz⟩ := hrel
                    by_cases htl : t < kn
                    · have rdk := OwnS.rd sz
                      obtain ⟨g6, o6, rfl⟩ := rdk.addr (by omega)
                      have htK : t < Kl.length := by rw [HKN.out]; exact htl
                      have ct := rdk.at (ivs_get htK)
                      have hst := anyEq_snoc htK n
                      obtain ⟨m, hm⟩ : ∃ m, Kl[t] = m := ⟨_, rfl⟩
                      rw [hm] at ct hst
                      obtain ⟨bb, hbb⟩ : ∃ bb, anyEq (Kl.take t) n = bb := ⟨_, rfl⟩
                      rw [hbb] at hst ⊢
                      have HST := hid hst
                      clear hm hst hbb rdk
                      obtain ⟨_, p1⟩ := oact_c (St.pick 3 sz)
                      rw [HPE.out] at p1
                      cases bb with
                      | true =>
                        go_wp2
                        go_roundw
                        case rel => exact ⟨t + 1, by omega, by go_num, by rw [HST.out]; rfl, sz⟩
                        case measure => simp [intOf]; omega
                      | false =>
                        by_cases hmn : m = n
                        · have hne : (m == n) = true := by simpa using hmn
                          have hne2 : (n == m) = true := by simpa using hmn.symm
                          have HNE := hid hne
                          clear hmn
                          go_wp2
                          go_roundw
                          case rel => exact ⟨t + 1, by omega, by go_num, by rw [HST.out, HNE.out]; rfl, sz⟩
                          case measure => simp [intOf]; omega
                        · have hne : (m == n) = false := by simpa using hmn
                          have hne2 : (n == m) = false := by simpa using fun h => hmn h.symm
                          have HNE := hid hne
                          clear hmn
                          go_wp2
                          go_roundw
                          case rel => exact ⟨t + 1, by omega, by go_num, by rw [HST.out, HNE.out]; rfl, sz⟩
                          case measure => simp [intOf]; omega
                    · have hte : t = kn := by omega
                      subst hte
                      have htk : Kl.take t = Kl := List.take_of_length_le (by rw [HKN.out]; exact Nat.le_refl _)
                      rw [htk, HIN.out]
                      clear htk
                      go_wp2
                      go_roundw
                      case rel => exact ⟨i + 1, _, a6, _, c6, Kl, by omega, rfl, by go_num, goOn, sz.sel [2, 0, 2]⟩
                      case measure => simp [intOf]; omega
              · by_cases he : e = 0
                · subst he
                  have hk0 : (q.kind == 0) = false := by simp; intro h; exact hek ⟨rfl, .inl h⟩
                  have hk2 : (q.kind == 2) = false := by simp; intro h; exact hek ⟨rfl, .inr (.inl h)⟩
                  have hk3 : (q.kind == 3) = false := by simp; intro h; exact hek ⟨rfl, .inr (.inr h)⟩
                  clear hek
                  go_wp2_with fail
                  go_roundw
                  case rel => exact ⟨i + 1, _, a6, _, c6, Kl, by omega, rfl, by go_num, goOn, sF⟩
                  case measure => simp [intOf]; omega
                · have he0 : (e == 0) = false := by simp [he]
                  clear hek he
                  go_wp2_with fail
                  go_roundw
                  case rel => exact ⟨i + 1, _, a6, _, c6, Kl, by omega, rfl, by go_num, goOn, sF⟩
                  case measure => simp [intOf]; omega
        · have hie : i = ln := by omega
          subst hie
          go_wp2_with fail
          exact HK.out _ sr.below
    · exact HK.out _ s9.below
  · cases rb with
    | false =>
      clear hq hrb hnn
      go_enter Tryz.func8, Tryz.ntmps8
      go_wp2_with (first
        | (replace st := hid st; refine wpl_boxA (vs := ivs c) rfl (.tmp 1) rfl rfl st.out ?_; rintro T w1 s1; clear st)
        | (go_at_call 10; first
            | (refine speaks_c s4 ?_; rintro w9 s9)
            | (refine speaks_c s3 ?_; rintro w9 s9)
            | (refine speaks_c s1 ?_; rintro w2 s2))
        | (go_at_call 23; refine few17_c s2 (HLR.out.rds _) HRD.out ?_; rintro w3 fb s3 hfb; have HFB := hid hfb; clear hfb; have l3 := ldC HC.out s3)
        | (go_at_call 31; refine roomy_c s3 HC.out ?_; rintro w4 s4; rw [HR.out]))
      all_goals exact HK.out _ s9.below
    | true =>
      by_cases hp1 : 0 ≤ self
      · have k1 : decide (self < 0) = false := decide_eq_false (by omega)
        have k2 : decide (nn ≤ self) = true := decide_eq_true (by have : ¬ self < nn := fun h => hq ⟨rfl, hp1, h⟩; omega)
        clear hq hrb hnn hp1
        go_enter Tryz.func8, Tryz.ntmps8
        go_wp2_with (first
          | (replace st := hid st; refine wpl_boxA (vs := ivs c) rfl (.tmp 1) rfl rfl st.out ?_; rintro T w1 s1; clear st)
          | (go_at_call 10; first
              | (refine speaks_c s4 ?_; rintro w9 s9)
              | (refine speaks_c s3 ?_; rintro w9 s9)
              | (refine speaks_c s1 ?_; rintro w2 s2))
          | (go_at_call 23; refine few17_c s2 (HLR.out.rds _) HRD.out ?_; rintro w3 fb s3 hfb; have HFB := hid hfb; clear hfb; have l3 := ldC HC.out s3)
          | (go_at_call 31; refine roomy_c s3 HC.out ?_; rintro w4 s4; rw [HR.out]; have c0 := cfg_at s4 HL0.out; rw [HNN.out] at c0))
        all_goals exact HK.out _ s9.below
      · have k1 : decide (self < 0) = true := decide_eq_true (by omega)
        clear hq hrb hnn hp1
        go_enter Tryz.func8, Tryz.ntmps8
        go_wp2_with (first
          | (replace st := hid st; refine wpl_boxA (vs := ivs c) rfl (.tmp 1) rfl rfl st.out ?_; rintro T w1 s1; clear st)
          | (go_at_call 10; first
              | (refine speaks_c s4 ?_; rintro w9 s9)
              | (refine speaks_c s3 ?_; rintro w9 s9)
              | (refine speaks_c s1 ?_; rintro w2 s2))
          | (go_at_call 23; refine few17_c s2 (HLR.out.rds _) HRD.out ?_; rintro w3 fb s3 hfb; have HFB := hid hfb; clear hfb; have l3 := ldC HC.out s3)
          | (go_at_call 31; refine roomy_c s3 HC.out ?_; rintro w4 s4; rw [HR.out]))
        all_goals exact HK.out _ s9.below
end

end Go.Proofs.YtbpdchaeakihkaaGreat
