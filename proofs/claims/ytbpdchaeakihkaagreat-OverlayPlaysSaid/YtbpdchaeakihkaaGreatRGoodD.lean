/- The document's Good of messages, whatever the kind. Printed by mkRGoodD.py. -/
import Derived.Test.YtbpdchaeakihkaaGreatRGoodC
import Derived.Test.YtbpdchaeakihkaaGreatRGoodE
namespace Go.Proofs.YtbpdchaeakihkaaGreat
open Go.RowKit Go.Qd
attribute [local go_sem ↓] execOp_ldAny execOp_eqR execOp_neR execOp_b71
attribute [local go_sem] run_eqR run_neR run_b71

theorem rcheck_same (e : EnV) : rcheckE e = checkE e := rcheckE_eq e (lenB_nil e.val)
def headB (m : MsgV) (k : Nat) : Bool := cntB m k && (fldB m k && (siteB m.peer && (!decide (m.hops < 0) && (!decide (8 < m.hops) && (!decide (m.number < 0) && !decide (4294967295 < m.number))))))
def psAny (l : List Int) : Bool := l.any fun x => !siteB x
def enAny (l : List EnV) : Bool := l.any fun e => !(rcheckE e == 0)
def rgoodB (m : MsgV) (k : Nat) (ks : List MkV) (es : List EnV) : Bool := headB m k && ((mzB m || markB m.mark) && (!psAny m.ps && (!mkCAny ks && !enAny es)))
theorem any_snoc2 {α : Type} {g : α → Bool} {l : List α} {i : Nat} (h : i < l.length) : (l.take (i + 1)).any g = ((l.take i).any g || g l[i]) := by
  rw [List.take_succ_eq_append_getElem h, List.any_append]; simp
theorem any_yes2 {α : Type} {g : α → Bool} {l : List α} {i : Nat} (h : i < l.length) (hg : g l[i] = true) : l.any g = true := List.any_eq_true.2 ⟨_, List.getElem_mem h, hg⟩

section
variable {W w : World} {R : List HP} {post : Ending → World → Prop} {m : MsgV} {k : Nat} {ks : List MkV} {es : List EnV}

set_option maxRecDepth 100000 in
set_option maxHeartbeats 16000000 in
theorem rgood_c (h1 : 1 ≤ k) (h2 : k < 20) (hk : m.kind = k) (hp : Rds W R 1 m.pa m.pn m.pc (ivs m.ps)) (hpM : Rds W R 3 m.ma m.mn m.mq (mkC ks)) (hpE : Rds W R 9 m.ea m.en m.eq (enC es))
    (st : St W w R) (K : ∀ w', St W w' R → post (.returned (.int .i64 (if rgoodB m k ks es then 0 else 4))) w') : Calls Tryz.prog 28 #[.agg m.cells.toArray] w post := by
  obtain ⟨pa, hpa⟩ : ∃ x, m.pa = x := ⟨_, rfl⟩
  obtain ⟨pn, hpn⟩ : ∃ x, m.pn = x := ⟨_, rfl⟩
  obtain ⟨pc, hpc⟩ : ∃ x, m.pc = x := ⟨_, rfl⟩
  obtain ⟨ma, hma⟩ : ∃ x, m.ma = x := ⟨_, rfl⟩
  obtain ⟨mn, hmn⟩ : ∃ x, m.mn = x := ⟨_, rfl⟩
  obtain ⟨mq, hmq⟩ : ∃ x, m.mq = x := ⟨_, rfl⟩
  obtain ⟨ea, hea⟩ : ∃ x, m.ea = x := ⟨_, rfl⟩
  obtain ⟨en, hen⟩ : ∃ x, m.en = x := ⟨_, rfl⟩
  obtain ⟨eq, heq⟩ : ∃ x, m.eq = x := ⟨_, rfl⟩
  rw [hpa, hpn, hpc] at hp
  rw [hma, hmn, hmq] at hpM
  rw [hea, hen, heq] at hpE
  have HF : Hid ((.slice m.pa m.pn m.pc : Value) = .slice pa pn pc ∧ (.slice m.ma m.mn m.mq : Value) = .slice ma mn mq ∧ (.slice m.ea m.en m.eq : Value) = .slice ea en eq) := hid ⟨by rw [hpa, hpn, hpc], by rw [hma, hmn, hmq], by rw [hea, hen, heq]⟩
  clear hpa hpn hpc hma hmn hmq hea hen heq
  have HP := hid hp; have HPM := hid hpM; have HPE := hid hpE
  have HNl : Hid (m.ps.length = pn ∧ ks.length = mn ∧ es.length = en) := hid ⟨ivs_len (hp w st), mkC_ln (hpM w st), enC_ln (hpE w st)⟩
  have big1 := (hp w st).big; have big2 := (hpM w st).big; have big3 := (hpE w st).big
  have i1 : decide ((k : Int) < 1) = false := decide_eq_false (by omega)
  have i2 : decide (19 < (k : Int)) = false := decide_eq_false (by omega)
  replace h1 := hid h1; replace h2 := hid h2
  clear hp hpM hpE
  unfold rgoodB headB at K
  obtain ⟨b0, e0⟩ : ∃ b, cntB m k = b := ⟨_, rfl⟩
  obtain ⟨b1, e1⟩ : ∃ b, fldB m k = b := ⟨_, rfl⟩
  obtain ⟨b2, e2⟩ : ∃ b, siteB m.peer = b := ⟨_, rfl⟩
  obtain ⟨b3, e3⟩ : ∃ b, decide (m.hops < 0) = b := ⟨_, rfl⟩
  obtain ⟨b4, e4⟩ : ∃ b, decide (8 < m.hops) = b := ⟨_, rfl⟩
  obtain ⟨b5, e5⟩ : ∃ b, decide (m.number < 0) = b := ⟨_, rfl⟩
  obtain ⟨b6, e6⟩ : ∃ b, decide (4294967295 < m.number) = b := ⟨_, rfl⟩
  obtain ⟨z, ez⟩ : ∃ b, mzB m = b := ⟨_, rfl⟩
  obtain ⟨g, eg⟩ : ∃ b, markB m.mark = b := ⟨_, rfl⟩
  obtain ⟨P1, eP⟩ : ∃ b, psAny m.ps = b := ⟨_, rfl⟩
  obtain ⟨P2, eM⟩ : ∃ b, mkCAny ks = b := ⟨_, rfl⟩
  obtain ⟨P3, eE⟩ : ∃ b, enAny es = b := ⟨_, rfl⟩
  rw [e0, e1, e2, e3, e4, e5, e6, ez, eg, eP, eM, eE] at K
  have H0 := hid e0; have H1 := hid e1; have H2 := hid e2; have HG := hid eg; have HPA := hid eP; have HMA := hid eM; have HEA := hid eE
  clear e0 e1 e2 eg eP eM eE
  cases b0 with
  | false =>
    replace K : ∀ w', St W w' R → post (.returned (.int .i64 4)) w' := K
    have HK := hid K; clear K
    go_enter Tryz.func28, Tryz.ntmps28
    go_wp2_with (first
      | (refine wpl_boxA (vs := m.cells) rfl (.tmp 0) rfl rfl st ?_; rintro T w1 s; obtain ⟨⟨c0, c1, c2, c3, c4, c5, c6, c7⟩, c8, c9, cT⟩ := msgAll hk s; rw [HF.out.1] at c4; rw [HF.out.2.1] at c8; rw [HF.out.2.2] at c9)
      | (go_at_call 62; refine counts_c h1.out h2.out hk s ?_; rw [H0.out]; clear c0 c1 c2 c3 c4 c5 c6 c7 c8 c9 cT s; rintro w1 s; obtain ⟨⟨c0, c1, c2, c3, c4, c5, c6, c7⟩, c8, c9, cT⟩ := msgAll hk s; rw [HF.out.1] at c4; rw [HF.out.2.1] at c8; rw [HF.out.2.2] at c9)
      | (go_at_call 63; refine fields_c hk s ?_; rw [H1.out]; clear c0 c1 c2 c3 c4 c5 c6 c7 c8 c9 cT s; rintro w1 s; obtain ⟨⟨c0, c1, c2, c3, c4, c5, c6, c7⟩, c8, c9, cT⟩ := msgAll hk s; rw [HF.out.1] at c4; rw [HF.out.2.1] at c8; rw [HF.out.2.2] at c9)
      | (go_at_call 64; refine rsite_c ?_; rw [H2.out]))
    exact HK.out _ (St.drop s)
  | true =>
    cases b1 with
    | false =>
      replace K : ∀ w', St W w' R → post (.returned (.int .i64 4)) w' := K
      have HK := hid K; clear K
      go_enter Tryz.func28, Tryz.ntmps28
      go_wp2_with (first
        | (refine wpl_boxA (vs := m.cells) rfl (.tmp 0) rfl rfl st ?_; rintro T w1 s; obtain ⟨⟨c0, c1, c2, c3, c4, c5, c6, c7⟩, c8, c9, cT⟩ := msgAll hk s; rw [HF.out.1] at c4; rw [HF.out.2.1] at c8; rw [HF.out.2.2] at c9)
        | (go_at_call 62; refine counts_c h1.out h2.out hk s ?_; rw [H0.out]; clear c0 c1 c2 c3 c4 c5 c6 c7 c8 c9 cT s; rintro w1 s; obtain ⟨⟨c0, c1, c2, c3, c4, c5, c6, c7⟩, c8, c9, cT⟩ := msgAll hk s; rw [HF.out.1] at c4; rw [HF.out.2.1] at c8; rw [HF.out.2.2] at c9)
        | (go_at_call 63; refine fields_c hk s ?_; rw [H1.out]; clear c0 c1 c2 c3 c4 c5 c6 c7 c8 c9 cT s; rintro w1 s; obtain ⟨⟨c0, c1, c2, c3, c4, c5, c6, c7⟩, c8, c9, cT⟩ := msgAll hk s; rw [HF.out.1] at c4; rw [HF.out.2.1] at c8; rw [HF.out.2.2] at c9)
        | (go_at_call 64; refine rsite_c ?_; rw [H2.out]))
      exact HK.out _ (St.drop s)
    | true =>
      cases b2 with
      | false =>
        replace K : ∀ w', St W w' R → post (.returned (.int .i64 4)) w' := K
        have HK := hid K; clear K
        go_enter Tryz.func28, Tryz.ntmps28
        go_wp2_with (first
          | (refine wpl_boxA (vs := m.cells) rfl (.tmp 0) rfl rfl st ?_; rintro T w1 s; obtain ⟨⟨c0, c1, c2, c3, c4, c5, c6, c7⟩, c8, c9, cT⟩ := msgAll hk s; rw [HF.out.1] at c4; rw [HF.out.2.1] at c8; rw [HF.out.2.2] at c9)
          | (go_at_call 62; refine counts_c h1.out h2.out hk s ?_; rw [H0.out]; clear c0 c1 c2 c3 c4 c5 c6 c7 c8 c9 cT s; rintro w1 s; obtain ⟨⟨c0, c1, c2, c3, c4, c5, c6, c7⟩, c8, c9, cT⟩ := msgAll hk s; rw [HF.out.1] at c4; rw [HF.out.2.1] at c8; rw [HF.out.2.2] at c9)
          | (go_at_call 63; refine fields_c hk s ?_; rw [H1.out]; clear c0 c1 c2 c3 c4 c5 c6 c7 c8 c9 cT s; rintro w1 s; obtain ⟨⟨c0, c1, c2, c3, c4, c5, c6, c7⟩, c8, c9, cT⟩ := msgAll hk s; rw [HF.out.1] at c4; rw [HF.out.2.1] at c8; rw [HF.out.2.2] at c9)
          | (go_at_call 64; refine rsite_c ?_; rw [H2.out]))
        exact HK.out _ (St.drop s)
      | true =>
        cases b3 with
        | true =>
          replace K : ∀ w', St W w' R → post (.returned (.int .i64 4)) w' := K
          have HK := hid K; clear K
          go_enter Tryz.func28, Tryz.ntmps28
          go_wp2_with (first
            | (refine wpl_boxA (vs := m.cells) rfl (.tmp 0) rfl rfl st ?_; rintro T w1 s; obtain ⟨⟨c0, c1, c2, c3, c4, c5, c6, c7⟩, c8, c9, cT⟩ := msgAll hk s; rw [HF.out.1] at c4; rw [HF.out.2.1] at c8; rw [HF.out.2.2] at c9)
            | (go_at_call 62; refine counts_c h1.out h2.out hk s ?_; rw [H0.out]; clear c0 c1 c2 c3 c4 c5 c6 c7 c8 c9 cT s; rintro w1 s; obtain ⟨⟨c0, c1, c2, c3, c4, c5, c6, c7⟩, c8, c9, cT⟩ := msgAll hk s; rw [HF.out.1] at c4; rw [HF.out.2.1] at c8; rw [HF.out.2.2] at c9)
            | (go_at_call 63; refine fields_c hk s ?_; rw [H1.out]; clear c0 c1 c2 c3 c4 c5 c6 c7 c8 c9 cT s; rintro w1 s; obtain ⟨⟨c0, c1, c2, c3, c4, c5, c6, c7⟩, c8, c9, cT⟩ := msgAll hk s; rw [HF.out.1] at c4; rw [HF.out.2.1] at c8; rw [HF.out.2.2] at c9)
            | (go_at_call 64; refine rsite_c ?_; rw [H2.out]))
          exact HK.out _ (St.drop s)
        | false =>
          cases b4 with
          | true =>
            replace K : ∀ w', St W w' R → post (.returned (.int .i64 4)) w' := K
            have HK := hid K; clear K
            go_enter Tryz.func28, Tryz.ntmps28
            go_wp2_with (first
              | (refine wpl_boxA (vs := m.cells) rfl (.tmp 0) rfl rfl st ?_; rintro T w1 s; obtain ⟨⟨c0, c1, c2, c3, c4, c5, c6, c7⟩, c8, c9, cT⟩ := msgAll hk s; rw [HF.out.1] at c4; rw [HF.out.2.1] at c8; rw [HF.out.2.2] at c9)
              | (go_at_call 62; refine counts_c h1.out h2.out hk s ?_; rw [H0.out]; clear c0 c1 c2 c3 c4 c5 c6 c7 c8 c9 cT s; rintro w1 s; obtain ⟨⟨c0, c1, c2, c3, c4, c5, c6, c7⟩, c8, c9, cT⟩ := msgAll hk s; rw [HF.out.1] at c4; rw [HF.out.2.1] at c8; rw [HF.out.2.2] at c9)
              | (go_at_call 63; refine fields_c hk s ?_; rw [H1.out]; clear c0 c1 c2 c3 c4 c5 c6 c7 c8 c9 cT s; rintro w1 s; obtain ⟨⟨c0, c1, c2, c3, c4, c5, c6, c7⟩, c8, c9, cT⟩ := msgAll hk s; rw [HF.out.1] at c4; rw [HF.out.2.1] at c8; rw [HF.out.2.2] at c9)
              | (go_at_call 64; refine rsite_c ?_; rw [H2.out]))
            exact HK.out _ (St.drop s)
          | false =>
            cases b5 with
            | true =>
              replace K : ∀ w', St W w' R → post (.returned (.int .i64 4)) w' := K
              have HK := hid K; clear K
              go_enter Tryz.func28, Tryz.ntmps28
              go_wp2_with (first
                | (refine wpl_boxA (vs := m.cells) rfl (.tmp 0) rfl rfl st ?_; rintro T w1 s; obtain ⟨⟨c0, c1, c2, c3, c4, c5, c6, c7⟩, c8, c9, cT⟩ := msgAll hk s; rw [HF.out.1] at c4; rw [HF.out.2.1] at c8; rw [HF.out.2.2] at c9)
                | (go_at_call 62; refine counts_c h1.out h2.out hk s ?_; rw [H0.out]; clear c0 c1 c2 c3 c4 c5 c6 c7 c8 c9 cT s; rintro w1 s; obtain ⟨⟨c0, c1, c2, c3, c4, c5, c6, c7⟩, c8, c9, cT⟩ := msgAll hk s; rw [HF.out.1] at c4; rw [HF.out.2.1] at c8; rw [HF.out.2.2] at c9)
                | (go_at_call 63; refine fields_c hk s ?_; rw [H1.out]; clear c0 c1 c2 c3 c4 c5 c6 c7 c8 c9 cT s; rintro w1 s; obtain ⟨⟨c0, c1, c2, c3, c4, c5, c6, c7⟩, c8, c9, cT⟩ := msgAll hk s; rw [HF.out.1] at c4; rw [HF.out.2.1] at c8; rw [HF.out.2.2] at c9)
                | (go_at_call 64; refine rsite_c ?_; rw [H2.out]))
              exact HK.out _ (St.drop s)
            | false =>
              cases b6 with
              | true =>
                replace K : ∀ w', St W w' R → post (.returned (.int .i64 4)) w' := K
                have HK := hid K; clear K
                go_enter Tryz.func28, Tryz.ntmps28
                go_wp2_with (first
                  | (refine wpl_boxA (vs := m.cells) rfl (.tmp 0) rfl rfl st ?_; rintro T w1 s; obtain ⟨⟨c0, c1, c2, c3, c4, c5, c6, c7⟩, c8, c9, cT⟩ := msgAll hk s; rw [HF.out.1] at c4; rw [HF.out.2.1] at c8; rw [HF.out.2.2] at c9)
                  | (go_at_call 62; refine counts_c h1.out h2.out hk s ?_; rw [H0.out]; clear c0 c1 c2 c3 c4 c5 c6 c7 c8 c9 cT s; rintro w1 s; obtain ⟨⟨c0, c1, c2, c3, c4, c5, c6, c7⟩, c8, c9, cT⟩ := msgAll hk s; rw [HF.out.1] at c4; rw [HF.out.2.1] at c8; rw [HF.out.2.2] at c9)
                  | (go_at_call 63; refine fields_c hk s ?_; rw [H1.out]; clear c0 c1 c2 c3 c4 c5 c6 c7 c8 c9 cT s; rintro w1 s; obtain ⟨⟨c0, c1, c2, c3, c4, c5, c6, c7⟩, c8, c9, cT⟩ := msgAll hk s; rw [HF.out.1] at c4; rw [HF.out.2.1] at c8; rw [HF.out.2.2] at c9)
                  | (go_at_call 64; refine rsite_c ?_; rw [H2.out]))
                exact HK.out _ (St.drop s)
              | false =>
                cases z with
                | true =>
                  replace K : ∀ w', St W w' R → post (.returned (.int .i64 (if (!P1 && (!P2 && !P3)) = true then 0 else 4))) w' := K
                  have HK := hid K; clear K
                  go_enter Tryz.func28, Tryz.ntmps28
                  go_wp2_with (first
                    | (refine wpl_boxA (vs := m.cells) rfl (.tmp 0) rfl rfl st ?_; rintro T w1 s; obtain ⟨⟨c0, c1, c2, c3, c4, c5, c6, c7⟩, c8, c9, cT⟩ := msgAll hk s; rw [HF.out.1] at c4; rw [HF.out.2.1] at c8; rw [HF.out.2.2] at c9)
                    | (go_at_call 62; refine counts_c h1.out h2.out hk s ?_; rw [H0.out]; clear c0 c1 c2 c3 c4 c5 c6 c7 c8 c9 cT s; rintro w1 s; obtain ⟨⟨c0, c1, c2, c3, c4, c5, c6, c7⟩, c8, c9, cT⟩ := msgAll hk s; rw [HF.out.1] at c4; rw [HF.out.2.1] at c8; rw [HF.out.2.2] at c9)
                    | (go_at_call 63; refine fields_c hk s ?_; rw [H1.out]; clear c0 c1 c2 c3 c4 c5 c6 c7 c8 c9 cT s; rintro w1 s; obtain ⟨⟨c0, c1, c2, c3, c4, c5, c6, c7⟩, c8, c9, cT⟩ := msgAll hk s; rw [HF.out.1] at c4; rw [HF.out.2.1] at c8; rw [HF.out.2.2] at c9)
                    | (go_at_call 64; refine rsite_c ?_; rw [H2.out])
                    | (go_at_call 65; refine rmkGood_c (m := m.mark) s ?_; rw [HG.out]; clear c0 c1 c2 c3 c4 c5 c6 c7 c8 c9 cT s; rintro w1 s; obtain ⟨⟨c0, c1, c2, c3, c4, c5, c6, c7⟩, c8, c9, cT⟩ := msgAll hk s; rw [HF.out.1] at c4; rw [HF.out.2.1] at c8; rw [HF.out.2.2] at c9))
                  go_loopw [3] (fun ii wr => ∃ i : Nat, i ≤ pn ∧ ii = .int .i64 i ∧ Hid (psAny (m.ps.take i) = false) ∧ St W wr (row T 0 m.cells :: R)) (fun ii _ => pn - (intOf ii).toNat)
                  case atStart => exact ⟨0, Nat.zero_le _, rfl, hid rfl, s⟩
                  case round =>
                    clear c0 c1 c2 c3 c4 c5 c6 c7 c8 c9 cT s
                    obtain ⟨i, hi, rfl, HA, s⟩ := hrel
                    obtain ⟨⟨c0, c1, c2, c3, c4, c5, c6, c7⟩, c8, c9, cT⟩ := msgAll hk s; rw [HF.out.1] at c4; rw [HF.out.2.1] at c8; rw [HF.out.2.2] at c9
                    by_cases hlt : i < pn
                    · have hi2 : (i : Int) < (pn : Int) := by omega
                      have rd := HP.out _ s.drop
                      obtain ⟨g3, o3, rfl⟩ := rd.addr (by omega)
                      have hiA : i < m.ps.length := by rw [HNl.out.1]; exact hlt
                      have ci := run_ldP (t := 3) (by kernel_rfl) (rd.at (ivs_get hiA))
                      have hsn : psAny (m.ps.take (i + 1)) = (psAny (m.ps.take i) || !siteB m.ps[i]) := any_snoc2 hiA
                      have hyes : siteB m.ps[i] = false → psAny m.ps = true := fun h => any_yes2 hiA (by rw [h]; rfl)
                      obtain ⟨q, hq⟩ : ∃ q, m.ps[i] = q := ⟨_, rfl⟩
                      rw [hq] at ci hsn hyes
                      obtain ⟨b, hb⟩ : ∃ b, siteB q = b := ⟨_, rfl⟩
                      rw [hb] at hsn hyes
                      have HSN := hid hsn; have HY := hid hyes; have HB := hid hb
                      clear hq rd hiA hsn hyes
                      cases b with
                      | false =>
                        have hP : P1 = true := by rw [← HPA.out]; exact HY.out rfl
                        subst hP
                        go_wp2_with (go_at_call 64; refine rsite_c ?_; rw [HB.out])
                        have HK3 := HK.out
                        exact HK.out _ s.drop
                      | true =>
                        go_wp2_with (go_at_call 64; refine rsite_c ?_; rw [HB.out])
                        go_roundw
                        case rel => exact ⟨i + 1, by omega, by go_num, hid (by rw [HSN.out, HA.out]; rfl), s⟩
                        case measure => simp [intOf]; omega
                    · have hie : pn = i := by omega
                      subst hie
                      have ha := HA.out
                      rw [List.take_of_length_le (by rw [HNl.out.1]; exact Nat.le_refl _)] at ha
                      have hP : P1 = false := by rw [← HPA.out]; exact ha
                      subst hP
                      clear ha HA
                      go_wp2_with fail
                      go_loopw [4] (fun ii wr => ∃ i : Nat, i ≤ mn ∧ ii = .int .i64 i ∧ Hid (mkCAny (ks.take i) = false) ∧ St W wr (row T 0 m.cells :: R)) (fun ii _ => mn - (intOf ii).toNat)
                      case atStart => exact ⟨0, Nat.zero_le _, rfl, hid rfl, s⟩
                      case round =>
                        clear c0 c1 c2 c3 c4 c5 c6 c7 c8 c9 cT s
                        obtain ⟨i, hi, rfl, HA, s⟩ := hrel
                        obtain ⟨⟨c0, c1, c2, c3, c4, c5, c6, c7⟩, c8, c9, cT⟩ := msgAll hk s; rw [HF.out.1] at c4; rw [HF.out.2.1] at c8; rw [HF.out.2.2] at c9
                        by_cases hlt : i < mn
                        · have hi2 : (i : Int) < (mn : Int) := by omega
                          have rd := HPM.out _ s.drop
                          obtain ⟨g3, o3, rfl⟩ := rd.addr (by omega)
                          have hiA : i < ks.length := by rw [HNl.out.2.1]; exact hlt
                          have ci := rmkLd rd hiA
                          have hsn : mkCAny (ks.take (i + 1)) = (mkCAny (ks.take i) || !markB ks[i]) := any_snoc2 hiA
                          have hyes : markB ks[i] = false → mkCAny ks = true := fun h => any_yes2 hiA (by rw [h]; rfl)
                          obtain ⟨q, hq⟩ : ∃ q, ks[i] = q := ⟨_, rfl⟩
                          rw [hq] at ci hsn hyes
                          obtain ⟨b, hb⟩ : ∃ b, markB q = b := ⟨_, rfl⟩
                          rw [hb] at hsn hyes
                          have HSN := hid hsn; have HY := hid hyes; have HB := hid hb
                          clear hq rd hiA hsn hyes
                          cases b with
                          | false =>
                            have hP : P2 = true := by rw [← HMA.out]; exact HY.out rfl
                            subst hP
                            go_wp2_with (go_at_call 65; refine rmkGood_c s ?_; rw [HB.out]; clear c0 c1 c2 c3 c4 c5 c6 c7 c8 c9 cT s; rintro w1 s; obtain ⟨⟨c0, c1, c2, c3, c4, c5, c6, c7⟩, c8, c9, cT⟩ := msgAll hk s; rw [HF.out.1] at c4; rw [HF.out.2.1] at c8; rw [HF.out.2.2] at c9)
                            exact HK.out _ s.drop
                          | true =>
                            go_wp2_with (go_at_call 65; refine rmkGood_c s ?_; rw [HB.out]; clear c0 c1 c2 c3 c4 c5 c6 c7 c8 c9 cT s; rintro w1 s; obtain ⟨⟨c0, c1, c2, c3, c4, c5, c6, c7⟩, c8, c9, cT⟩ := msgAll hk s; rw [HF.out.1] at c4; rw [HF.out.2.1] at c8; rw [HF.out.2.2] at c9)
                            go_roundw
                            case rel => exact ⟨i + 1, by omega, by go_num, hid (by rw [HSN.out, HA.out]; rfl), s⟩
                            case measure => simp [intOf]; omega
                        · have hie : mn = i := by omega
                          subst hie
                          have ha := HA.out
                          rw [List.take_of_length_le (by rw [HNl.out.2.1]; exact Nat.le_refl _)] at ha
                          have hP : P2 = false := by rw [← HMA.out]; exact ha
                          subst hP
                          clear ha HA
                          go_wp2_with fail
                          go_loopw [5] (fun ii wr => ∃ i : Nat, i ≤ en ∧ ii = .int .i64 i ∧ Hid (enAny (es.take i) = false) ∧ St W wr (row T 0 m.cells :: R)) (fun ii _ => en - (intOf ii).toNat)
                          case atStart => exact ⟨0, Nat.zero_le _, rfl, hid rfl, s⟩
                          case round =>
                            clear c0 c1 c2 c3 c4 c5 c6 c7 c8 c9 cT s
                            obtain ⟨i, hi, rfl, HA, s⟩ := hrel
                            obtain ⟨⟨c0, c1, c2, c3, c4, c5, c6, c7⟩, c8, c9, cT⟩ := msgAll hk s; rw [HF.out.1] at c4; rw [HF.out.2.1] at c8; rw [HF.out.2.2] at c9
                            by_cases hlt : i < en
                            · have hi2 : (i : Int) < (en : Int) := by omega
                              have rd := HPE.out _ s.drop
                              obtain ⟨g3, o3, rfl⟩ := rd.addr (by omega)
                              have hiA : i < es.length := by rw [HNl.out.2.2]; exact hlt
                              have ci := renLd rd hiA
                              have hsn : enAny (es.take (i + 1)) = (enAny (es.take i) || !(rcheckE es[i] == 0)) := any_snoc2 hiA
                              have hyes : (rcheckE es[i] == 0) = false → enAny es = true := fun h => any_yes2 hiA (by rw [h]; rfl)
                              obtain ⟨q, hq⟩ : ∃ q, es[i] = q := ⟨_, rfl⟩
                              rw [hq] at ci hsn hyes
                              obtain ⟨b, hb⟩ : ∃ b, (rcheckE q == 0) = b := ⟨_, rfl⟩
                              rw [hb] at hsn hyes
                              have HSN := hid hsn; have HY := hid hyes; have HB := hid hb
                              clear hq rd hiA hsn hyes
                              cases b with
                              | false =>
                                have hP : P3 = true := by rw [← HEA.out]; exact HY.out rfl
                                subst hP
                                go_wp2_with (go_at_call 66; refine rcheckE_c s ?_; clear c0 c1 c2 c3 c4 c5 c6 c7 c8 c9 cT s; rintro w1 s; obtain ⟨⟨c0, c1, c2, c3, c4, c5, c6, c7⟩, c8, c9, cT⟩ := msgAll hk s; rw [HF.out.1] at c4; rw [HF.out.2.1] at c8; rw [HF.out.2.2] at c9)
                                exact HK.out _ s.drop
                              | true =>
                                go_wp2_with (go_at_call 66; refine rcheckE_c s ?_; clear c0 c1 c2 c3 c4 c5 c6 c7 c8 c9 cT s; rintro w1 s; obtain ⟨⟨c0, c1, c2, c3, c4, c5, c6, c7⟩, c8, c9, cT⟩ := msgAll hk s; rw [HF.out.1] at c4; rw [HF.out.2.1] at c8; rw [HF.out.2.2] at c9)
                                go_roundw
                                case rel => exact ⟨i + 1, by omega, by go_num, hid (by rw [HSN.out, HA.out]; rfl), s⟩
                                case measure => simp [intOf]; omega
                            · have hie : en = i := by omega
                              subst hie
                              have ha := HA.out
                              rw [List.take_of_length_le (by rw [HNl.out.2.2]; exact Nat.le_refl _)] at ha
                              have hP : P3 = false := by rw [← HEA.out]; exact ha
                              subst hP
                              clear ha HA
                              go_wp2_with fail
                              exact HK.out _ s.drop
                | false =>
                  cases g with
                  | true =>
                    replace K : ∀ w', St W w' R → post (.returned (.int .i64 (if (!P1 && (!P2 && !P3)) = true then 0 else 4))) w' := K
                    have HK := hid K; clear K
                    go_enter Tryz.func28, Tryz.ntmps28
                    go_wp2_with (first
                      | (refine wpl_boxA (vs := m.cells) rfl (.tmp 0) rfl rfl st ?_; rintro T w1 s; obtain ⟨⟨c0, c1, c2, c3, c4, c5, c6, c7⟩, c8, c9, cT⟩ := msgAll hk s; rw [HF.out.1] at c4; rw [HF.out.2.1] at c8; rw [HF.out.2.2] at c9)
                      | (go_at_call 62; refine counts_c h1.out h2.out hk s ?_; rw [H0.out]; clear c0 c1 c2 c3 c4 c5 c6 c7 c8 c9 cT s; rintro w1 s; obtain ⟨⟨c0, c1, c2, c3, c4, c5, c6, c7⟩, c8, c9, cT⟩ := msgAll hk s; rw [HF.out.1] at c4; rw [HF.out.2.1] at c8; rw [HF.out.2.2] at c9)
                      | (go_at_call 63; refine fields_c hk s ?_; rw [H1.out]; clear c0 c1 c2 c3 c4 c5 c6 c7 c8 c9 cT s; rintro w1 s; obtain ⟨⟨c0, c1, c2, c3, c4, c5, c6, c7⟩, c8, c9, cT⟩ := msgAll hk s; rw [HF.out.1] at c4; rw [HF.out.2.1] at c8; rw [HF.out.2.2] at c9)
                      | (go_at_call 64; refine rsite_c ?_; rw [H2.out])
                      | (go_at_call 65; refine rmkGood_c (m := m.mark) s ?_; rw [HG.out]; clear c0 c1 c2 c3 c4 c5 c6 c7 c8 c9 cT s; rintro w1 s; obtain ⟨⟨c0, c1, c2, c3, c4, c5, c6, c7⟩, c8, c9, cT⟩ := msgAll hk s; rw [HF.out.1] at c4; rw [HF.out.2.1] at c8; rw [HF.out.2.2] at c9))
                    go_loopw [3] (fun ii wr => ∃ i : Nat, i ≤ pn ∧ ii = .int .i64 i ∧ Hid (psAny (m.ps.take i) = false) ∧ St W wr (row T 0 m.cells :: R)) (fun ii _ => pn - (intOf ii).toNat)
                    case atStart => exact ⟨0, Nat.zero_le _, rfl, hid rfl, s⟩
                    case round =>
                      clear c0 c1 c2 c3 c4 c5 c6 c7 c8 c9 cT s
                      obtain ⟨i, hi, rfl, HA, s⟩ := hrel
                      obtain ⟨⟨c0, c1, c2, c3, c4, c5, c6, c7⟩, c8, c9, cT⟩ := msgAll hk s; rw [HF.out.1] at c4; rw [HF.out.2.1] at c8; rw [HF.out.2.2] at c9
                      by_cases hlt : i < pn
                      · have hi2 : (i : Int) < (pn : Int) := by omega
                        have rd := HP.out _ s.drop
                        obtain ⟨g3, o3, rfl⟩ := rd.addr (by omega)
                        have hiA : i < m.ps.length := by rw [HNl.out.1]; exact hlt
                        have ci := run_ldP (t := 3) (by kernel_rfl) (rd.at (ivs_get hiA))
                        have hsn : psAny (m.ps.take (i + 1)) = (psAny (m.ps.take i) || !siteB m.ps[i]) := any_snoc2 hiA
                        have hyes : siteB m.ps[i] = false → psAny m.ps = true := fun h => any_yes2 hiA (by rw [h]; rfl)
                        obtain ⟨q, hq⟩ : ∃ q, m.ps[i] = q := ⟨_, rfl⟩
                        rw [hq] at ci hsn hyes
                        obtain ⟨b, hb⟩ : ∃ b, siteB q = b := ⟨_, rfl⟩
                        rw [hb] at hsn hyes
                        have HSN := hid hsn; have HY := hid hyes; have HB := hid hb
                        clear hq rd hiA hsn hyes
                        cases b with
                        | false =>
                          have hP : P1 = true := by rw [← HPA.out]; exact HY.out rfl
                          subst hP
                          go_wp2_with (go_at_call 64; refine rsite_c ?_; rw [HB.out])
                          have HK3 := HK.out
                          exact HK.out _ s.drop
                        | true =>
                          go_wp2_with (go_at_call 64; refine rsite_c ?_; rw [HB.out])
                          go_roundw
                          case rel => exact ⟨i + 1, by omega, by go_num, hid (by rw [HSN.out, HA.out]; rfl), s⟩
                          case measure => simp [intOf]; omega
                      · have hie : pn = i := by omega
                        subst hie
                        have ha := HA.out
                        rw [List.take_of_length_le (by rw [HNl.out.1]; exact Nat.le_refl _)] at ha
                        have hP : P1 = false := by rw [← HPA.out]; exact ha
                        subst hP
                        clear ha HA
                        go_wp2_with fail
                        go_loopw [4] (fun ii wr => ∃ i : Nat, i ≤ mn ∧ ii = .int .i64 i ∧ Hid (mkCAny (ks.take i) = false) ∧ St W wr (row T 0 m.cells :: R)) (fun ii _ => mn - (intOf ii).toNat)
                        case atStart => exact ⟨0, Nat.zero_le _, rfl, hid rfl, s⟩
                        case round =>
                          clear c0 c1 c2 c3 c4 c5 c6 c7 c8 c9 cT s
                          obtain ⟨i, hi, rfl, HA, s⟩ := hrel
                          obtain ⟨⟨c0, c1, c2, c3, c4, c5, c6, c7⟩, c8, c9, cT⟩ := msgAll hk s; rw [HF.out.1] at c4; rw [HF.out.2.1] at c8; rw [HF.out.2.2] at c9
                          by_cases hlt : i < mn
                          · have hi2 : (i : Int) < (mn : Int) := by omega
                            have rd := HPM.out _ s.drop
                            obtain ⟨g3, o3, rfl⟩ := rd.addr (by omega)
                            have hiA : i < ks.length := by rw [HNl.out.2.1]; exact hlt
                            have ci := rmkLd rd hiA
                            have hsn : mkCAny (ks.take (i + 1)) = (mkCAny (ks.take i) || !markB ks[i]) := any_snoc2 hiA
                            have hyes : markB ks[i] = false → mkCAny ks = true := fun h => any_yes2 hiA (by rw [h]; rfl)
                            obtain ⟨q, hq⟩ : ∃ q, ks[i] = q := ⟨_, rfl⟩
                            rw [hq] at ci hsn hyes
                            obtain ⟨b, hb⟩ : ∃ b, markB q = b := ⟨_, rfl⟩
                            rw [hb] at hsn hyes
                            have HSN := hid hsn; have HY := hid hyes; have HB := hid hb
                            clear hq rd hiA hsn hyes
                            cases b with
                            | false =>
                              have hP : P2 = true := by rw [← HMA.out]; exact HY.out rfl
                              subst hP
                              go_wp2_with (go_at_call 65; refine rmkGood_c s ?_; rw [HB.out]; clear c0 c1 c2 c3 c4 c5 c6 c7 c8 c9 cT s; rintro w1 s; obtain ⟨⟨c0, c1, c2, c3, c4, c5, c6, c7⟩, c8, c9, cT⟩ := msgAll hk s; rw [HF.out.1] at c4; rw [HF.out.2.1] at c8; rw [HF.out.2.2] at c9)
                              exact HK.out _ s.drop
                            | true =>
                              go_wp2_with (go_at_call 65; refine rmkGood_c s ?_; rw [HB.out]; clear c0 c1 c2 c3 c4 c5 c6 c7 c8 c9 cT s; rintro w1 s; obtain ⟨⟨c0, c1, c2, c3, c4, c5, c6, c7⟩, c8, c9, cT⟩ := msgAll hk s; rw [HF.out.1] at c4; rw [HF.out.2.1] at c8; rw [HF.out.2.2] at c9)
                              go_roundw
                              case rel => exact ⟨i + 1, by omega, by go_num, hid (by rw [HSN.out, HA.out]; rfl), s⟩
                              case measure => simp [intOf]; omega
                          · have hie : mn = i := by omega
                            subst hie
                            have ha := HA.out
                            rw [List.take_of_length_le (by rw [HNl.out.2.1]; exact Nat.le_refl _)] at ha
                            have hP : P2 = false := by rw [← HMA.out]; exact ha
                            subst hP
                            clear ha HA
                            go_wp2_with fail
                            go_loopw [5] (fun ii wr => ∃ i : Nat, i ≤ en ∧ ii = .int .i64 i ∧ Hid (enAny (es.take i) = false) ∧ St W wr (row T 0 m.cells :: R)) (fun ii _ => en - (intOf ii).toNat)
                            case atStart => exact ⟨0, Nat.zero_le _, rfl, hid rfl, s⟩
                            case round =>
                              clear c0 c1 c2 c3 c4 c5 c6 c7 c8 c9 cT s
                              obtain ⟨i, hi, rfl, HA, s⟩ := hrel
                              obtain ⟨⟨c0, c1, c2, c3, c4, c5, c6, c7⟩, c8, c9, cT⟩ := msgAll hk s; rw [HF.out.1] at c4; rw [HF.out.2.1] at c8; rw [HF.out.2.2] at c9
                              by_cases hlt : i < en
                              · have hi2 : (i : Int) < (en : Int) := by omega
                                have rd := HPE.out _ s.drop
                                obtain ⟨g3, o3, rfl⟩ := rd.addr (by omega)
                                have hiA : i < es.length := by rw [HNl.out.2.2]; exact hlt
                                have ci := renLd rd hiA
                                have hsn : enAny (es.take (i + 1)) = (enAny (es.take i) || !(rcheckE es[i] == 0)) := any_snoc2 hiA
                                have hyes : (rcheckE es[i] == 0) = false → enAny es = true := fun h => any_yes2 hiA (by rw [h]; rfl)
                                obtain ⟨q, hq⟩ : ∃ q, es[i] = q := ⟨_, rfl⟩
                                rw [hq] at ci hsn hyes
                                obtain ⟨b, hb⟩ : ∃ b, (rcheckE q == 0) = b := ⟨_, rfl⟩
                                rw [hb] at hsn hyes
                                have HSN := hid hsn; have HY := hid hyes; have HB := hid hb
                                clear hq rd hiA hsn hyes
                                cases b with
                                | false =>
                                  have hP : P3 = true := by rw [← HEA.out]; exact HY.out rfl
                                  subst hP
                                  go_wp2_with (go_at_call 66; refine rcheckE_c s ?_; clear c0 c1 c2 c3 c4 c5 c6 c7 c8 c9 cT s; rintro w1 s; obtain ⟨⟨c0, c1, c2, c3, c4, c5, c6, c7⟩, c8, c9, cT⟩ := msgAll hk s; rw [HF.out.1] at c4; rw [HF.out.2.1] at c8; rw [HF.out.2.2] at c9)
                                  exact HK.out _ s.drop
                                | true =>
                                  go_wp2_with (go_at_call 66; refine rcheckE_c s ?_; clear c0 c1 c2 c3 c4 c5 c6 c7 c8 c9 cT s; rintro w1 s; obtain ⟨⟨c0, c1, c2, c3, c4, c5, c6, c7⟩, c8, c9, cT⟩ := msgAll hk s; rw [HF.out.1] at c4; rw [HF.out.2.1] at c8; rw [HF.out.2.2] at c9)
                                  go_roundw
                                  case rel => exact ⟨i + 1, by omega, by go_num, hid (by rw [HSN.out, HA.out]; rfl), s⟩
                                  case measure => simp [intOf]; omega
                              · have hie : en = i := by omega
                                subst hie
                                have ha := HA.out
                                rw [List.take_of_length_le (by rw [HNl.out.2.2]; exact Nat.le_refl _)] at ha
                                have hP : P3 = false := by rw [← HEA.out]; exact ha
                                subst hP
                                clear ha HA
                                go_wp2_with fail
                                exact HK.out _ s.drop
                  | false =>
                    replace K : ∀ w', St W w' R → post (.returned (.int .i64 4)) w' := K
                    have HK := hid K; clear K
                    go_enter Tryz.func28, Tryz.ntmps28
                    go_wp2_with (first
                      | (refine wpl_boxA (vs := m.cells) rfl (.tmp 0) rfl rfl st ?_; rintro T w1 s; obtain ⟨⟨c0, c1, c2, c3, c4, c5, c6, c7⟩, c8, c9, cT⟩ := msgAll hk s; rw [HF.out.1] at c4; rw [HF.out.2.1] at c8; rw [HF.out.2.2] at c9)
                      | (go_at_call 62; refine counts_c h1.out h2.out hk s ?_; rw [H0.out]; clear c0 c1 c2 c3 c4 c5 c6 c7 c8 c9 cT s; rintro w1 s; obtain ⟨⟨c0, c1, c2, c3, c4, c5, c6, c7⟩, c8, c9, cT⟩ := msgAll hk s; rw [HF.out.1] at c4; rw [HF.out.2.1] at c8; rw [HF.out.2.2] at c9)
                      | (go_at_call 63; refine fields_c hk s ?_; rw [H1.out]; clear c0 c1 c2 c3 c4 c5 c6 c7 c8 c9 cT s; rintro w1 s; obtain ⟨⟨c0, c1, c2, c3, c4, c5, c6, c7⟩, c8, c9, cT⟩ := msgAll hk s; rw [HF.out.1] at c4; rw [HF.out.2.1] at c8; rw [HF.out.2.2] at c9)
                      | (go_at_call 64; refine rsite_c ?_; rw [H2.out])
                      | (go_at_call 65; refine rmkGood_c (m := m.mark) s ?_; rw [HG.out]; clear c0 c1 c2 c3 c4 c5 c6 c7 c8 c9 cT s; rintro w1 s; obtain ⟨⟨c0, c1, c2, c3, c4, c5, c6, c7⟩, c8, c9, cT⟩ := msgAll hk s; rw [HF.out.1] at c4; rw [HF.out.2.1] at c8; rw [HF.out.2.2] at c9))
                    exact HK.out _ (St.drop s)

end

end Go.Proofs.YtbpdchaeakihkaaGreat
