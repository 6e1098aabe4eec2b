/- Is a message short? Printed by mkFewA.py. -/
import Derived.Test.YtbpdchaeakihkaaGreatOfB
namespace Go.Proofs.YtbpdchaeakihkaaGreat
open Go.RowKit Go.Qd
attribute [local go_sem ↓] execOp_ldAny

section
variable {W w : World} {R : List HP} {post : Ending → World → Prop} {m : MsgV} {ks : List MkV} {es : List EnV}

def shortB (e : EnV) : Bool := decide ((e.key.size : Int) ≤ 300) && decide ((e.val.size : Int) ≤ 300)
set_option maxRecDepth 100000 in
set_option maxHeartbeats 1000000 in
theorem short_c {e : EnV} (st : St W w R) (K : ∀ w', St W w' R → post (.returned (.bool (shortB e))) w') : Calls Tryz.prog 102 #[.agg e.cells.toArray] w post := by
  unfold shortB at K
  obtain ⟨b0, e0⟩ : ∃ b, decide ((e.key.size : Int) ≤ 300) = b := ⟨_, rfl⟩
  obtain ⟨b1, e1⟩ : ∃ b, decide ((e.val.size : Int) ≤ 300) = b := ⟨_, rfl⟩
  rw [e0, e1] at K
  cases b0 with
  | false =>
    simp only [Bool.false_and] at K
    have HK := hid K; clear K
    go_enter Tryz.func102, Tryz.ntmps102
    go_wp2_with (refine wpl_boxA (vs := e.cells) rfl (.tmp 0) rfl rfl st ?_; rintro T w1 s1; obtain ⟨c0, c1, _⟩ := enLTo s1)
    exact HK.out _ s1.drop
  | true =>
    simp only [Bool.true_and] at K
    have HK := hid K; clear K
    cases b1 with
    | false =>
      go_enter Tryz.func102, Tryz.ntmps102
      go_wp2_with (refine wpl_boxA (vs := e.cells) rfl (.tmp 0) rfl rfl st ?_; rintro T w1 s1; obtain ⟨c0, c1, _⟩ := enLTo s1)
      exact HK.out _ s1.drop
    | true =>
      go_enter Tryz.func102, Tryz.ntmps102
      go_wp2_with (refine wpl_boxA (vs := e.cells) rfl (.tmp 0) rfl rfl st ?_; rintro T w1 s1; obtain ⟨c0, c1, _⟩ := enLTo s1)
      exact HK.out _ s1.drop

theorem fewL {W w : World} {R : List HP} {m : MsgV} {T : Nat} (s : St W w (row T 0 m.cells :: R)) :
    (loadG 24 (.pointer (some ⟨T, 4, none⟩))).run Tryz.prog w = .ok (.slice m.pa m.pn m.pc) w ∧ (loadG 72 (.pointer (some ⟨T, 10, none⟩))).run Tryz.prog w = .ok (.slice m.ma m.mn m.mq) w ∧
    (loadG 73 (.pointer (some ⟨T, 11, none⟩))).run Tryz.prog w = .ok (.slice m.ea m.en m.eq) w ∧ (loadG 9 (.pointer (some ⟨T, 9, none⟩))).run Tryz.prog w = .ok (.string m.key) w := by
  obtain ⟨_, _, _, _, c4, _, _, _, _, c9, _⟩ := boxM s
  exact ⟨run_ldP (by kernel_rfl) c4, (msgS s).1, (msgS s).2, run_ldP (by kernel_rfl) c9⟩

set_option maxRecDepth 100000 in
set_option maxHeartbeats 4000000 in
theorem few16_c (st : St W w R) (hpM : Rds W R 3 m.ma m.mn m.mq (mkC ks)) (hpE : Rds W R 9 m.ea m.en m.eq (enC es))
    (K : ∀ w' b, St W w' R → (b = true → m.pn ≤ 20 ∧ m.mn ≤ 20 ∧ m.en ≤ 20) → post (.returned (.bool b)) w') :
    Calls Tryz.prog 58 #[.agg m.cells.toArray] w post := by
  have HK := hid K; clear K
  obtain ⟨ma, hma⟩ : ∃ x, m.ma = x := ⟨_, rfl⟩
  obtain ⟨mn, hmn⟩ : ∃ x, m.mn = x := ⟨_, rfl⟩
  obtain ⟨mq, hmq⟩ : ∃ x, m.mq = x := ⟨_, rfl⟩
  obtain ⟨ea, hea⟩ : ∃ x, m.ea = x := ⟨_, rfl⟩
  obtain ⟨en, hen⟩ : ∃ x, m.en = x := ⟨_, rfl⟩
  obtain ⟨eq, heq⟩ : ∃ x, m.eq = x := ⟨_, rfl⟩
  obtain ⟨pn, hpn⟩ : ∃ x, m.pn = x := ⟨_, rfl⟩
  rw [hma, hmn, hmq] at hpM
  rw [hea, hen, heq] at hpE
  rw [hmn, hen, hpn] at HK
  have HF := hid (And.intro hma (And.intro hmn (And.intro hmq (And.intro hea (And.intro hen (And.intro heq hpn))))))
  clear hma hmn hmq hea hen heq hpn
  have HPM := hid hpM; have HPE := hid hpE
  have HNl : Hid (ks.length = mn ∧ es.length = en) := hid ⟨mkC_ln (hpM w st), enC_ln (hpE w st)⟩
  clear hpM hpE
  obtain ⟨b0, e0⟩ : ∃ b, decide (20 < (pn : Int)) = b := ⟨_, rfl⟩
  obtain ⟨b1, e1⟩ : ∃ b, decide (20 < (mn : Int)) = b := ⟨_, rfl⟩
  obtain ⟨b2, e2⟩ : ∃ b, decide (20 < (en : Int)) = b := ⟨_, rfl⟩
  obtain ⟨b3, e3⟩ : ∃ b, decide (300 < (m.key.size : Int)) = b := ⟨_, rfl⟩
  cases b0 with
  | true =>
    go_enter Tryz.func58, Tryz.ntmps58
    go_wp2_with (refine wpl_boxA (vs := m.cells) rfl (.tmp 0) rfl rfl st ?_; rintro T w1 s1; obtain ⟨l4, l8, l9, lk⟩ := fewL s1; rw [HF.out.1, HF.out.2.1, HF.out.2.2.1] at l8; rw [HF.out.2.2.2.1, HF.out.2.2.2.2.1, HF.out.2.2.2.2.2.1] at l9; rw [HF.out.2.2.2.2.2.2] at l4)
    exact HK.out _ false s1.drop (by intro h; cases h)
  | false =>
    cases b1 with
    | true =>
      go_enter Tryz.func58, Tryz.ntmps58
      go_wp2_with (refine wpl_boxA (vs := m.cells) rfl (.tmp 0) rfl rfl st ?_; rintro T w1 s1; obtain ⟨l4, l8, l9, lk⟩ := fewL s1; rw [HF.out.1, HF.out.2.1, HF.out.2.2.1] at l8; rw [HF.out.2.2.2.1, HF.out.2.2.2.2.1, HF.out.2.2.2.2.2.1] at l9; rw [HF.out.2.2.2.2.2.2] at l4)
      exact HK.out _ false s1.drop (by intro h; cases h)
    | false =>
      cases b2 with
      | true =>
        go_enter Tryz.func58, Tryz.ntmps58
        go_wp2_with (refine wpl_boxA (vs := m.cells) rfl (.tmp 0) rfl rfl st ?_; rintro T w1 s1; obtain ⟨l4, l8, l9, lk⟩ := fewL s1; rw [HF.out.1, HF.out.2.1, HF.out.2.2.1] at l8; rw [HF.out.2.2.2.1, HF.out.2.2.2.2.1, HF.out.2.2.2.2.2.1] at l9; rw [HF.out.2.2.2.2.2.2] at l4)
        exact HK.out _ false s1.drop (by intro h; cases h)
      | false =>
        cases b3 with
        | true =>
          go_enter Tryz.func58, Tryz.ntmps58
          go_wp2_with (refine wpl_boxA (vs := m.cells) rfl (.tmp 0) rfl rfl st ?_; rintro T w1 s1; obtain ⟨l4, l8, l9, lk⟩ := fewL s1; rw [HF.out.1, HF.out.2.1, HF.out.2.2.1] at l8; rw [HF.out.2.2.2.1, HF.out.2.2.2.2.1, HF.out.2.2.2.2.2.1] at l9; rw [HF.out.2.2.2.2.2.2] at l4)
          exact HK.out _ false s1.drop (by intro h; cases h)
        | false =>
          go_enter Tryz.func58, Tryz.ntmps58
          go_wp2_with (refine wpl_boxA (vs := m.cells) rfl (.tmp 0) rfl rfl st ?_; rintro T w1 s1; obtain ⟨l4, l8, l9, lk⟩ := fewL s1; rw [HF.out.1, HF.out.2.1, HF.out.2.2.1] at l8; rw [HF.out.2.2.2.1, HF.out.2.2.2.2.1, HF.out.2.2.2.2.2.1] at l9; rw [HF.out.2.2.2.2.2.2] at l4)
          go_loopw [33] (fun ii wr => ∃ i : Nat, i ≤ mn ∧ ii = .int .i64 i ∧ St W wr (row T 0 m.cells :: R)) (fun ii _ => mn - (intOf ii).toNat)
          case atStart => exact ⟨0, Nat.zero_le _, rfl, s1⟩
          case round =>
            obtain ⟨i, hi, rfl, sr⟩ := hrel
            have hb20 := of_decide_eq_false e1
            by_cases hlt : i < mn
            · have hi2 : (i : Int) < (mn : Int) := by omega
              have rd := HPM.out _ sr.drop
              obtain ⟨g3, o3, rfl⟩ := rd.addr (by omega)
              have hiA : i < ks.length := by rw [HNl.out.1]; exact hlt
              have ci := rmkLd rd hiA
              obtain ⟨q, hq⟩ : ∃ q, ks[i] = q := ⟨_, rfl⟩
              rw [hq] at ci
              obtain ⟨z, hz⟩ : ∃ z, decide (300 < (q.key.size : Int)) = z := ⟨_, rfl⟩
              
              clear hq rd hiA
              cases z with
              | true =>
                go_wp2_with (first
                  | (refine wpl_allocA rfl rfl zero_mkTo sr ?_; rintro P w7 s7)
                  | (refine wpl_storeA (vs := q.cells) rfl (.tmp 4) (.tmp 36) (by rfl) agg_rmk (by rfl) (by rfl) rfl (mk_one q) s7 rfl ?_; rintro w8 s8; have lq := (mkLOf s8).2)
                  | fail)
                exact HK.out _ false (St.drop (St.drop s8)) (by intro h; cases h)
              | false =>
                go_wp2_with (first
                  | (refine wpl_allocA rfl rfl zero_mkTo sr ?_; rintro P w7 s7)
                  | (refine wpl_storeA (vs := q.cells) rfl (.tmp 4) (.tmp 36) (by rfl) agg_rmk (by rfl) (by rfl) rfl (mk_one q) s7 rfl ?_; rintro w8 s8; have lq := (mkLOf s8).2)
                  | fail)
                go_roundw
                case rel => exact ⟨i + 1, by omega, by go_num, St.drop s8⟩
                case measure => simp [intOf]; omega
            · have hie : mn = i := by omega
              subst hie
              obtain ⟨_, _, k9, _⟩ := fewL sr
              rw [HF.out.2.2.2.1, HF.out.2.2.2.2.1, HF.out.2.2.2.2.2.1] at k9
              go_wp2_with fail
              go_loopw [45] (fun ii wr => ∃ i : Nat, i ≤ en ∧ ii = .int .i64 i ∧ St W wr (row T 0 m.cells :: R)) (fun ii _ => en - (intOf ii).toNat)
              case atStart => exact ⟨0, Nat.zero_le _, rfl, sr⟩
              case round =>
                obtain ⟨i, hi, rfl, sr⟩ := hrel
                have hb20 := of_decide_eq_false e2
                by_cases hlt : i < en
                · have hi2 : (i : Int) < (en : Int) := by omega
                  have rd := HPE.out _ sr.drop
                  obtain ⟨g3, o3, rfl⟩ := rd.addr (by omega)
                  have hiA : i < es.length := by rw [HNl.out.2]; exact hlt
                  have ci := renLd rd hiA
                  obtain ⟨q, hq⟩ : ∃ q, es[i] = q := ⟨_, rfl⟩
                  rw [hq] at ci
                  obtain ⟨z, hz⟩ : ∃ z, shortB q = z := ⟨_, rfl⟩
                  have HZ := hid hz; clear hz
                  clear hq rd hiA
                  cases z with
                  | false =>
                    go_wp2_with (first
                      | (refine wpl_allocA rfl rfl zero_enTo sr ?_; rintro P w7 s7)
                      | (refine wpl_storeA (vs := q.cells) rfl (.tmp 6) (.tmp 48) (by rfl) agg_ren (by rfl) (by rfl) rfl (en_one q) s7 rfl ?_; rintro w8 s8; have lq : (loadG 131 (.pointer (some ⟨P, 0, none⟩))).run Tryz.prog w8 = .ok (.agg q.cells.toArray) w8 := run_loadG (o := 0) agg_ren rfl s8.rowAll)
                      | (go_at_call 102; refine short_c s8 ?_; rintro w9 s9; rw [HZ.out]))
                    exact HK.out _ false (St.drop (St.drop s9)) (by intro h; cases h)
                  | true =>
                    go_wp2_with (first
                      | (refine wpl_allocA rfl rfl zero_enTo sr ?_; rintro P w7 s7)
                      | (refine wpl_storeA (vs := q.cells) rfl (.tmp 6) (.tmp 48) (by rfl) agg_ren (by rfl) (by rfl) rfl (en_one q) s7 rfl ?_; rintro w8 s8; have lq : (loadG 131 (.pointer (some ⟨P, 0, none⟩))).run Tryz.prog w8 = .ok (.agg q.cells.toArray) w8 := run_loadG (o := 0) agg_ren rfl s8.rowAll)
                      | (go_at_call 102; refine short_c s8 ?_; rintro w9 s9; rw [HZ.out]))
                    go_roundw
                    case rel => exact ⟨i + 1, by omega, by go_num, St.drop s9⟩
                    case measure => simp [intOf]; omega
                · have hie : en = i := by omega
                  subst hie
                  go_wp2_with fail
                  exact HK.out _ true sr.drop (fun _ => ⟨by have := of_decide_eq_false e0; omega, by have := of_decide_eq_false e1; omega, by have := of_decide_eq_false e2; omega⟩)

end

end Go.Proofs.YtbpdchaeakihkaaGreat
