/- RovC: several texts, joined. The document's overlay: Fits. -/
import Derived.Test.YtbpdchaeakihkaaGreatRovA
import Derived.Test.YtbpdchaeakihkaaGreatRGoodD
import Derived.Deep.RegionHeld3
import Derived.Test.YtbpdchaeakihkaaGreatROI
import Derived.Test.YtbpdchaeakihkaaGreatLetT
import Derived.Test.YtbpdchaeakihkaaGreatRefs
import Derived.BigQuiet
namespace Go.Proofs.YtbpdchaeakihkaaGreat
open Go.RowKit Go.Qd

/-- May a message be, whatever its kind, as the document has it? -/
def rgoodK (m : MsgV) (ks : List MkV) (es : List EnV) : Bool := decide (1 ≤ m.kind) && (decide (m.kind ≤ 19) && rgoodB m m.kind.toNat ks es)
/-- Does a message fit, as the document has it? -/
def rfitsB (O : OV) (m : MsgV) (ks : List MkV) (es : List EnV) : Bool :=
  rgoodK m ks es && (decide (m.kind ≤ 9) && (thereB O m.peer && !(m.ps.any fun q => !thereB O q)))
section
variable {W w : World} {R : List HP} {post : Ending → World → Prop} {x : RO} {m : MsgV} {ks : List MkV} {es : List EnV}

set_option maxRecDepth 100000 in
set_option maxHeartbeats 2000000 in
theorem rgoodOut_c (h : ¬ (1 ≤ m.kind ∧ m.kind ≤ 19)) (st : St W w R) (K : ∀ w', St W w' R → post (.returned (.int .i64 1)) w') : Calls Tryz.prog 28 #[.agg m.cells.toArray] w post := by
  have HK := hid K; clear K
  by_cases h1 : 1 ≤ m.kind
  · have d1 : decide (m.kind < 1) = false := decide_eq_false (by omega)
    have d2 : decide (19 < m.kind) = true := decide_eq_true (by omega)
    clear h h1
    go_enter Tryz.func28, Tryz.ntmps28
    go_wp2_with (refine wpl_boxA (vs := m.cells) rfl (.tmp 0) rfl rfl st ?_; rintro T w1 s1; have c0 := s1.rowCell (i := 0) (v := .int .i64 m.kind) rfl)
    exact HK.out _ s1.drop
  · have d1 : decide (m.kind < 1) = true := decide_eq_true (by omega)
    clear h h1
    go_enter Tryz.func28, Tryz.ntmps28
    go_wp2_with (refine wpl_boxA (vs := m.cells) rfl (.tmp 0) rfl rfl st ?_; rintro T w1 s1; have c0 := s1.rowCell (i := 0) (v := .int .i64 m.kind) rfl)
    exact HK.out _ s1.drop
theorem rgoodK_c (hp : Rds W R 1 m.pa m.pn m.pc (ivs m.ps)) (hpM : Rds W R 3 m.ma m.mn m.mq (mkC ks)) (hpE : Rds W R 9 m.ea m.en m.eq (enC es))
    (st : St W w R) (K : ∀ e w', (e == 0) = rgoodK m ks es → St W w' R → post (.returned (.int .i64 e)) w') : Calls Tryz.prog 28 #[.agg m.cells.toArray] w post := by
  by_cases h : 1 ≤ m.kind ∧ m.kind ≤ 19
  · refine rgood_c (k := m.kind.toNat) (by omega) (by omega) (by omega) hp hpM hpE st (fun w' s => K _ w' ?_ s)
    unfold rgoodK
    rw [decide_eq_true h.1, decide_eq_true h.2, Bool.true_and, Bool.true_and]
    cases rgoodB m m.kind.toNat ks es <;> rfl
  · refine rgoodOut_c h st (fun w' s => K _ w' ?_ s)
    unfold rgoodK
    by_cases h1 : 1 ≤ m.kind
    · rw [decide_eq_true h1, decide_eq_false (fun g => h ⟨h1, g⟩)]; rfl
    · rw [decide_eq_false h1]; rfl
theorem msgC4 {M : Nat} (s : St W w (row M 0 m.cells :: R)) : w.cell? ⟨M, 0, none⟩ = some (.int .i64 m.kind) ∧ w.cell? ⟨M, 1, none⟩ = some (.int .i64 m.peer) ∧ w.cell? ⟨M, 4, none⟩ = some (.slice m.pa m.pn m.pc) := by
  have c0 := s.rowCell (i := 0) (v := .int .i64 m.kind) rfl
  have c1 := s.rowCell (i := 1) (v := .int .i64 m.peer) rfl
  have c4 := s.rowCell (i := 4) (v := .slice m.pa m.pn m.pc) rfl
  simp only [Nat.zero_add] at c0 c1 c4
  exact ⟨c0, c1, c4⟩
attribute [local go_sem ↓] execOp_ldRO execOp_ldRM2

set_option maxRecDepth 100000 in
set_option maxHeartbeats 8000000 in
theorem rfits_c (h : x.ok) (hp : Rds W R 1 m.pa m.pn m.pc (ivs m.ps)) (hpM : Rds W R 3 m.ma m.mn m.mq (mkC ks)) (hpE : Rds W R 9 m.ea m.en m.eq (enC es))
    (st : St W w R) (K : ∀ w', St W w' R → post (.returned (.bool (rfitsB x.o m ks es))) w') : Calls Tryz.prog 122 #[.agg x.cells.toArray, .agg m.cells.toArray] w post := by
  have HH := hid h
  have HP := hid hp; have HM := hid hpM; have HE := hid hpE
  have HPL : Hid (m.ps.length = m.pn) := hid (ivs_len (hp w st))
  have hbig := (hp w st).big
  clear h hp hpM hpE
  unfold rfitsB at K
  obtain ⟨G, eG⟩ : ∃ b, rgoodK m ks es = b := ⟨_, rfl⟩
  obtain ⟨k9, e9⟩ : ∃ b, decide (m.kind ≤ 9) = b := ⟨_, rfl⟩
  obtain ⟨tb, et⟩ : ∃ b, thereB x.o m.peer = b := ⟨_, rfl⟩
  have j9 : decide (9 < m.kind) = !k9 := by rw [← e9]; by_cases g : m.kind ≤ 9; (rw [decide_eq_true g, decide_eq_false (by omega)]; rfl); (rw [decide_eq_false g, decide_eq_true (by omega)]; rfl)
  rw [eG, e9, et] at K
  have HG := hid eG; have HT := hid et
  clear eG et e9
  cases G with
  | false =>
    replace K : ∀ w', St W w' R → post (.returned (.bool false)) w' := K
    have HK := hid K; clear K
    go_enter Tryz.func122, Tryz.ntmps122
    go_wp2_with (first
      | (refine wpl_boxA (vs := x.cells) rfl (.tmp 0) rfl rfl st ?_; rintro B w1 s1)
      | (refine wpl_boxA (vs := m.cells) rfl (.tmp 1) rfl rfl s1 ?_; rintro M w2 s2; have lm := run_loadG (o := 0) aggRM2 rfl s2.rowAll)
      | (go_at_call 28; refine rgoodK_c (ks := ks) (es := es) (fun w s => HP.out w (s.dropN 2)) (fun w s => HM.out w (s.dropN 2)) (fun w s => HE.out w (s.dropN 2)) s2 ?_; rintro e w3 he s3; rw [HG.out] at he; have hne : (e != 0) = !(false) := by rw [← he]; rfl
         obtain ⟨c0, c1, c4⟩ := msgC4 s3
         have lx := roLd HH.out (St.pick 1 s3))
      | (go_at_call 157; refine rthere_c HH.out s3 ?_; rw [HT.out]; clear c0 c1 c4 lx; rintro w4 s4; obtain ⟨c0, c1, c4⟩ := msgC4 s4; have lx := roLd HH.out (St.pick 1 s4))
      | fail)
    exact HK.out _ (s3.dropN 2)
  | true =>
    cases k9 with
    | false =>
      replace K : ∀ w', St W w' R → post (.returned (.bool false)) w' := K
      have HK := hid K; clear K
      go_enter Tryz.func122, Tryz.ntmps122
      go_wp2_with (first
        | (refine wpl_boxA (vs := x.cells) rfl (.tmp 0) rfl rfl st ?_; rintro B w1 s1)
        | (refine wpl_boxA (vs := m.cells) rfl (.tmp 1) rfl rfl s1 ?_; rintro M w2 s2; have lm := run_loadG (o := 0) aggRM2 rfl s2.rowAll)
        | (go_at_call 28; refine rgoodK_c (ks := ks) (es := es) (fun w s => HP.out w (s.dropN 2)) (fun w s => HM.out w (s.dropN 2)) (fun w s => HE.out w (s.dropN 2)) s2 ?_; rintro e w3 he s3; rw [HG.out] at he; have hne : (e != 0) = !(true) := by rw [← he]; rfl
           obtain ⟨c0, c1, c4⟩ := msgC4 s3
           have lx := roLd HH.out (St.pick 1 s3))
        | (go_at_call 157; refine rthere_c HH.out s3 ?_; rw [HT.out]; clear c0 c1 c4 lx; rintro w4 s4; obtain ⟨c0, c1, c4⟩ := msgC4 s4; have lx := roLd HH.out (St.pick 1 s4))
        | fail)
      exact HK.out _ (s3.dropN 2)
    | true =>
      cases tb with
      | false =>
        replace K : ∀ w', St W w' R → post (.returned (.bool false)) w' := K
        have HK := hid K; clear K
        go_enter Tryz.func122, Tryz.ntmps122
        go_wp2_with (first
          | (refine wpl_boxA (vs := x.cells) rfl (.tmp 0) rfl rfl st ?_; rintro B w1 s1)
          | (refine wpl_boxA (vs := m.cells) rfl (.tmp 1) rfl rfl s1 ?_; rintro M w2 s2; have lm := run_loadG (o := 0) aggRM2 rfl s2.rowAll)
          | (go_at_call 28; refine rgoodK_c (ks := ks) (es := es) (fun w s => HP.out w (s.dropN 2)) (fun w s => HM.out w (s.dropN 2)) (fun w s => HE.out w (s.dropN 2)) s2 ?_; rintro e w3 he s3; rw [HG.out] at he; have hne : (e != 0) = !(true) := by rw [← he]; rfl
             obtain ⟨c0, c1, c4⟩ := msgC4 s3
             have lx := roLd HH.out (St.pick 1 s3))
          | (go_at_call 157; refine rthere_c HH.out s3 ?_; rw [HT.out]; clear c0 c1 c4 lx; rintro w4 s4; obtain ⟨c0, c1, c4⟩ := msgC4 s4; have lx := roLd HH.out (St.pick 1 s4))
          | fail)
        exact HK.out _ (s4.dropN 2)
      | true =>
        obtain ⟨an, ean⟩ : ∃ b, (m.ps.any fun q => !thereB x.o q) = b := ⟨_, rfl⟩
        have HAN := hid ean
        rw [ean] at K
        clear ean
        replace K : ∀ w', St W w' R → post (.returned (.bool (!an))) w' := K
        have HK := hid K; clear K
        go_enter Tryz.func122, Tryz.ntmps122
        go_wp2_with (first
          | (refine wpl_boxA (vs := x.cells) rfl (.tmp 0) rfl rfl st ?_; rintro B w1 s1)
          | (refine wpl_boxA (vs := m.cells) rfl (.tmp 1) rfl rfl s1 ?_; rintro M w2 s2; have lm := run_loadG (o := 0) aggRM2 rfl s2.rowAll)
          | (go_at_call 28; refine rgoodK_c (ks := ks) (es := es) (fun w s => HP.out w (s.dropN 2)) (fun w s => HM.out w (s.dropN 2)) (fun w s => HE.out w (s.dropN 2)) s2 ?_; rintro e w3 he s3; rw [HG.out] at he; have hne : (e != 0) = !(true) := by rw [← he]; rfl
             obtain ⟨c0, c1, c4⟩ := msgC4 s3
             have lx := roLd HH.out (St.pick 1 s3))
          | (go_at_call 157; refine rthere_c HH.out s3 ?_; rw [HT.out]; clear c0 c1 c4 lx; rintro w4 s4; obtain ⟨c0, c1, c4⟩ := msgC4 s4; have lx := roLd HH.out (St.pick 1 s4))
          | fail)
        obtain ⟨pn, hpn⟩ : ∃ pn, m.pn = pn := ⟨_, rfl⟩
        have HPN := hid hpn
        rw [hpn] at hbig
        clear hpn c0 c1 c4 lx lm s1 s2 s3
        go_loopw [5] (fun ii wr => ∃ i : Nat, i ≤ pn ∧ ii = .int .i64 i ∧ Hid (((m.ps.take i).any fun q => !thereB x.o q) = false) ∧ St W wr (row M 0 m.cells :: row B 0 x.cells :: R)) (fun ii _ => pn - (intOf ii).toNat)
        case atStart => exact ⟨0, Nat.zero_le _, rfl, hid rfl, s4⟩
        case round =>
          clear s4
          obtain ⟨i, hi, rfl, HA, sr⟩ := hrel
          by_cases hlt : i < pn
          · have hi2 : (i : Int) < (pn : Int) := by omega
            have rd := HP.out _ (sr.drew.dropN 2)
            obtain ⟨g3, o3, hg⟩ := rd.addr (by rw [HPN.out]; omega)
            have hiA : i < m.ps.length := by rw [HPL.out, HPN.out]; exact hlt
            have HCI : Hid (∀ (w : World), St W w (row M 0 m.cells :: row B 0 x.cells :: R) → w.cell? ⟨g3, o3 + i, none⟩ = some (iv m.ps[i]) ∧ w.cell? ⟨M, 4, none⟩ = some (.slice (some ⟨g3, o3, none⟩) pn m.pc)) := hid (fun w s => by
              have r := HP.out w (s.dropN 2)
              rw [hg] at r
              have c := (msgC4 s).2.2
              rw [hg, HPN.out] at c
              exact ⟨r.at (ivs_get hiA), c⟩)
            have hsn : ((m.ps.take (i + 1)).any fun q => !thereB x.o q) = (((m.ps.take i).any fun q => !thereB x.o q) || !thereB x.o m.ps[i]) := any_snoc2 hiA
            have hyes : thereB x.o m.ps[i] = false → (m.ps.any fun q => !thereB x.o q) = true := fun g => any_yes2 hiA (by rw [g]; rfl)
            obtain ⟨t, ht⟩ : ∃ t, m.ps[i] = t := ⟨_, rfl⟩
            simp only [ht] at hsn hyes HCI
            obtain ⟨b, hb⟩ : ∃ b, thereB x.o t = b := ⟨_, rfl⟩
            rw [hb] at hsn hyes
            have HSN := hid hsn; have HY := hid hyes; have HB := hid hb
            clear ht rd hiA hsn hyes hg hb
            have k4 := (HCI.out _ sr).2
            have u := sr.drew
            obtain ⟨cu, du⟩ := HCI.out _ u
            have lu := roLd HH.out (St.pick 1 u)
            cases b with
            | false =>
              have hP : an = true := by rw [← HAN.out]; exact HY.out rfl
              subst hP
              go_wp2_with fail
              go_region_held3 (fun w' => (loadG 96 (.pointer (some ⟨B, 0, none⟩))).run Tryz.prog w' = .ok (.agg x.cells.toArray) w' ∧ w'.cell? ⟨g3, o3 + i, none⟩ = some (iv t) ∧ w'.cell? ⟨M, 4, none⟩ = some (.slice (some ⟨g3, o3, none⟩) pn m.pc))
                (first
                  | with_reducible exact ⟨lv, cv, dv⟩
                  | with_reducible exact ⟨lu, cu, du⟩)
                (first | (go_at_call 157; refine rthere_c HH.out u ?_; rw [HB.out]; rintro w5 s5; obtain ⟨cv, dv⟩ := HCI.out _ s5; have lv := roLd HH.out (St.pick 1 s5)))
              go_wp2_with fail
              exact HK.out _ (s5.dropN 2)
            | true =>
              go_wp2_with fail
              go_region_held3 (fun w' => (loadG 96 (.pointer (some ⟨B, 0, none⟩))).run Tryz.prog w' = .ok (.agg x.cells.toArray) w' ∧ w'.cell? ⟨g3, o3 + i, none⟩ = some (iv t) ∧ w'.cell? ⟨M, 4, none⟩ = some (.slice (some ⟨g3, o3, none⟩) pn m.pc))
                (first
                  | with_reducible exact ⟨lv, cv, dv⟩
                  | with_reducible exact ⟨lu, cu, du⟩)
                (first | (go_at_call 157; refine rthere_c HH.out u ?_; rw [HB.out]; rintro w5 s5; obtain ⟨cv, dv⟩ := HCI.out _ s5; have lv := roLd HH.out (St.pick 1 s5)))
              go_wp2_with fail
              go_roundw
              case rel => exact ⟨i + 1, by omega, by go_num, hid (by rw [HSN.out, HA.out]; rfl), s5⟩
              case measure => simp [intOf]; omega
          · have hie : pn = i := by omega
            subst hie
            have ha := HA.out
            rw [List.take_of_length_le (by rw [HPL.out, HPN.out]; exact Nat.le_refl _)] at ha
            have hP : an = false := by rw [← HAN.out]; exact ha
            subst hP
            have k4 := (msgC4 sr).2.2
            rw [HPN.out] at k4
            clear ha HA
            go_wp2_with fail
            exact HK.out _ (sr.dropN 2)
end

end Go.Proofs.YtbpdchaeakihkaaGreat

/- The document's comparisons: of peers, messages, letters, changes; what is the same is told so. -/
namespace Go.Proofs.YtbpdchaeakihkaaGreat
open Go.RowKit Go.Qd

theorem rpeers_c {post : Ending → World → Prop} {w : World} {ao ap : Option Addr} {n m c d : Nat} {xs ys : List Int} (ra : RdS w 1 ao n c (ivs xs)) (rb : RdS w 1 ap m d (ivs ys))
    (K : ∀ k, post (.returned (.bool (decide (xs = ys)))) (w.drewN k)) : Calls Tryz.prog 130 #[.slice ao n c, .slice ap m d] w post := by
  have HK := hid K; clear K
  have hn := hid (show xs.length = n by have := ra.len; simpa [ivs] using this)
  have hm := hid (show ys.length = m by have := rb.len; simpa [ivs] using this)
  have hl1 := ra.max; have hl2 := ra.le
  unfold maxLen at hl1
  by_cases hnm : n = m
  · subst hnm
    go_enter Tryz.func130, Tryz.ntmps130
    go_wp2
    go_loopw [5] (fun i wr => ∃ k : Nat, k ≤ n ∧ i = .int .i64 k ∧ Hid (xs.take k = ys.take k) ∧ ∃ q, wr = w.drewN q) (fun i _ => n - (intOf i).toNat)
    case atStart => exact ⟨0, Nat.zero_le _, rfl, hid rfl, 0, rfl⟩
    case round =>
      obtain ⟨k, hk, rfl, hh, q, rfl⟩ := hrel
      by_cases hlt : k < n
      · obtain ⟨g, o, rfl⟩ := ra.addr (by omega)
        obtain ⟨g', o', rfl⟩ := rb.addr (by omega)
        have hkx : k < xs.length := by rw [hn.out]; exact hlt
        have hky : k < ys.length := by rw [hm.out]; exact hlt
        have hc1 := ra.at (ivs_get hkx)
        have hc2 := rb.at (ivs_get hky)
        obtain ⟨x, hx⟩ : ∃ x, xs[k] = x := ⟨_, rfl⟩
        obtain ⟨y, hy⟩ : ∃ y, ys[k] = y := ⟨_, rfl⟩
        rw [hx] at hc1
        rw [hy] at hc2
        have HX := hid hx; have HY := hid hy; clear hx hy
        by_cases hxy : x = y
        · have hb : (x != y) = false := by rw [hxy]; simp
          have hs := hid (take_snoc_eq hkx hky hh.out (by rw [HX.out, HY.out, hxy]))
          clear hxy
          go_wp2
          go_quiet (fail)
          go_wp2
          go_roundw
          case rel => exact ⟨k + 1, by omega, by go_num, hs, _, rfl⟩
          case measure => simp [intOf]; omega
        · have hb : (x != y) = true := by simpa using hxy
          have hs := hid (show xs ≠ ys from fun h => hxy (by subst h; rw [← HX.out, ← HY.out]))
          clear hxy
          go_wp2
          go_quiet (fail)
          go_wp2
          have := HK.out (q + nq)
          rw [decide_eq_false hs.out, ← World.drewN_drewN] at this
          exact this
      · have hkn : k = n := by omega
        subst hkn
        have hxy : xs = ys := by
          have := hh.out
          rwa [List.take_of_length_le (by rw [hn.out]; exact Nat.le_refl _), List.take_of_length_le (by rw [hm.out]; exact Nat.le_refl _)] at this
        have hk := HK.out q
        rw [decide_eq_true hxy] at hk
        have HK2 := hid hk
        clear hxy hk HK
        go_wp2
        exact HK2.out
  · have hxy : xs ≠ ys := fun h => hnm (by rw [← hn.out, ← hm.out, h])
    have hk := HK.out 0
    rw [decide_eq_false hxy] at hk
    have HK2 := hid hk
    clear hxy hk HK
    go_enter Tryz.func130, Tryz.ntmps130
    go_wp2
    exact HK2.out

/-- Two messages without marks and entries, but for where their peers lie. -/
structure MsgEq (a b : MsgV) : Prop where
  k : a.kind = b.kind
  p : a.peer = b.peer
  h : a.hops = b.hops
  i : a.high = b.high
  n : a.number = b.number
  s : a.sum = b.sum
  c : a.mc = b.mc
  t : a.ms = b.ms
  y : a.key = b.key
  l : a.ps = b.ps
  ma : a.mn = 0 ∧ b.mn = 0
  ea : a.en = 0 ∧ b.en = 0
section
variable {W w : World} {R : List HP} {post : Ending → World → Prop} {a b : MsgV}
/-- All the loads of a message, of whatever kind. -/
theorem msgAllK {m : MsgV} {T : Nat} (s : St W w (row T 0 m.cells :: R)) :
    ((loadG 3 (.pointer (some ⟨T, 0, none⟩))).run Tryz.prog w = .ok (.int .i64 m.kind) w ∧ (loadG 3 (.pointer (some ⟨T, 1, none⟩))).run Tryz.prog w = .ok (.int .i64 m.peer) w ∧ (loadG 3 (.pointer (some ⟨T, 2, none⟩))).run Tryz.prog w = .ok (.int .i64 m.hops) w ∧
    (loadG 4 (.pointer (some ⟨T, 3, none⟩))).run Tryz.prog w = .ok (.bool m.high) w ∧ (loadG 24 (.pointer (some ⟨T, 4, none⟩))).run Tryz.prog w = .ok (.slice m.pa m.pn m.pc) w ∧ (loadG 3 (.pointer (some ⟨T, 5, none⟩))).run Tryz.prog w = .ok (.int .i64 m.number) w ∧
    (loadG 50 (.pointer (some ⟨T, 6, none⟩))).run Tryz.prog w = .ok (.int .u64 m.sum) w ∧ (loadG 71 (.pointer (some ⟨T, 7, none⟩))).run Tryz.prog w = .ok (.agg #[.int .i64 m.mc, .int .i64 m.ms, .string m.key]) w) ∧
    (loadG 72 (.pointer (some ⟨T, 10, none⟩))).run Tryz.prog w = .ok (.slice m.ma m.mn m.mq) w ∧ (loadG 73 (.pointer (some ⟨T, 11, none⟩))).run Tryz.prog w = .ok (.slice m.ea m.en m.eq) w ∧ True := by
  exact ⟨msgR s, (msgS s).1, (msgS s).2, trivial⟩

set_option maxRecDepth 100000 in
set_option maxHeartbeats 1000000 in
theorem rmarks0_c {x y : Option Addr} {c d : Nat} (K : post (.returned (.bool true)) w) : Calls Tryz.prog 131 #[.slice x 0 c, .slice y 0 d] w post := by
  have HK := hid K; clear K
  go_enter Tryz.func131, Tryz.ntmps131
  go_wp2_with fail
  go_loopw [5] (fun ii wr => ii = .int .i64 0 ∧ wr = w) (fun _ _ => 0)
  case atStart => exact ⟨rfl, rfl⟩
  case round =>
    obtain ⟨rfl, rfl⟩ := hrel
    go_wp2_with fail
    exact HK.out
set_option maxRecDepth 100000 in
set_option maxHeartbeats 1000000 in
theorem rentries0_c {x y : Option Addr} {c d : Nat} (K : post (.returned (.bool true)) w) : Calls Tryz.prog 132 #[.slice x 0 c, .slice y 0 d] w post := by
  have HK := hid K; clear K
  go_enter Tryz.func132, Tryz.ntmps132
  go_wp2_with fail
  go_loopw [5] (fun ii wr => ii = .int .i64 0 ∧ wr = w) (fun _ _ => 0)
  case atStart => exact ⟨rfl, rfl⟩
  case round =>
    obtain ⟨rfl, rfl⟩ := hrel
    go_wp2_with fail
    exact HK.out

def neMG (x y : Operand) (a b : Value) : Sem Value := do eqGuard .neq 71 x y a b; Go.binOp .neq 71 a b
theorem execOp_neMG (ρ : Operand → Value) (dst : Option Tmp) (x y : Operand) (r : TypeId) (ty : TypeId) (pos : String) (after : Array Edge) (guard : Option (Nat × Bool)) :
    execOp ρ { dst, op := .binOp .neq 71 x y r, type := ty, pos, after, guard } = (do pure (.value (← neMG x y (ρ x) (ρ y)))) := by simp [execOp, neMG]
theorem run_neMG (x y : Operand) (p q : Int) (k : ByteArray) (w : World) : (neMG x y (.agg #[.int .i64 p, .int .i64 q, .string k]) (.agg #[.int .i64 p, .int .i64 q, .string k])).run Tryz.prog w = .ok (.bool false) w := by
  unfold neMG
  go_simp
attribute [local go_sem ↓] execOp_ldAny execOp_neMG
attribute [local go_sem] run_neMG

set_option maxRecDepth 100000 in
set_option maxHeartbeats 8000000 in
theorem rsame16_c (e : MsgEq a b) (ra : Rds W R 1 a.pa a.pn a.pc (ivs a.ps)) (rb : Rds W R 1 b.pa b.pn b.pc (ivs b.ps)) (st : St W w R) (K : ∀ w', St W w' R → post (.returned (.bool true)) w') :
    Calls Tryz.prog 76 #[.agg a.cells.toArray, .agg b.cells.toArray] w post := by
  have HK := hid K; clear K
  have HRA := hid ra; have HRB := hid rb; have HEQ := hid e
  obtain ⟨k1, k2, k3, k4, k5, k6, k7, k8, k9, k10, ⟨m1, m2⟩, n1, n2⟩ := e
  have HX : Hid ((.slice a.ma a.mn a.mq : Value) = .slice a.ma 0 a.mq ∧ (.slice b.ma b.mn b.mq : Value) = .slice b.ma 0 b.mq ∧ (.slice a.ea a.en a.eq : Value) = .slice a.ea 0 a.eq ∧ (.slice b.ea b.en b.eq : Value) = .slice b.ea 0 b.eq) := hid ⟨by rw [m1], by rw [m2], by rw [n1], by rw [n2]⟩
  clear ra rb k1 k2 k3 k4 k5 k6 k7 k8 k9 k10 m1 m2 n1 n2
  go_enter Tryz.func76, Tryz.ntmps76
  go_wp2_with (first
    | (refine wpl_boxA (vs := a.cells) rfl (.tmp 0) rfl rfl st ?_; rintro A w1 s1)
    | (refine wpl_boxA (vs := b.cells) rfl (.tmp 1) rfl rfl s1 ?_; rintro B w2 s2
       obtain ⟨⟨a0, a1, a2, a3, a4, a5, a6, a7⟩, a8, a9, _⟩ := msgAllK (St.pick 1 s2)
       obtain ⟨⟨b0, b1, b2, b3, b4, b5, b6, b7⟩, b8, b9, _⟩ := msgAllK s2
       rw [HX.out.1] at a8; rw [HX.out.2.1] at b8; rw [HX.out.2.2.1] at a9; rw [HX.out.2.2.2] at b9
       rw [← HEQ.out.k] at b0; rw [← HEQ.out.p] at b1; rw [← HEQ.out.h] at b2; rw [← HEQ.out.i] at b3; rw [← HEQ.out.n] at b5; rw [← HEQ.out.s] at b6; rw [← HEQ.out.c, ← HEQ.out.t, ← HEQ.out.y] at b7)
    | (go_at_call 130; refine rpeers_c (HRA.out _ (s2.dropN 2)) (HRB.out _ (s2.dropN 2)) ?_; intro kk; rw [decide_eq_true HEQ.out.l]; have s3 := s2.drewN kk; generalize World.drewN _ kk = w3 at s3 ⊢
       clear a0 a1 a2 a3 a4 a5 a6 a7 a8 a9 b0 b1 b2 b3 b4 b5 b6 b7 b8 b9
       obtain ⟨_, a8, a9, _⟩ := msgAllK (St.pick 1 s3)
       obtain ⟨_, b8, b9, _⟩ := msgAllK s3
       rw [HX.out.1] at a8; rw [HX.out.2.1] at b8; rw [HX.out.2.2.1] at a9; rw [HX.out.2.2.2] at b9)
    | (go_at_call 131; refine rmarks0_c ?_)
    | (go_at_call 132; refine rentries0_c ?_))
  exact HK.out _ (s3.dropN 2)
end

end Go.Proofs.YtbpdchaeakihkaaGreat

/- The document's comparisons: letters, changes; the program's changes as the document's. -/
namespace Go.Proofs.YtbpdchaeakihkaaGreat
open Go.RowKit Go.Qd

theorem letAt {w : World} {b o n c i : Nat} {L : List LetV} (rd : RdS w 13 (some ⟨b, o, none⟩) n c (letC L)) (hi : i < L.length) :
    w.cell? ⟨b, o + i * 13, none⟩ = some (.int .i64 L[i].to) ∧ (loadG 75 (.pointer (some ⟨b, o + i * 13 + 1, none⟩))).run Tryz.prog w = .ok (.agg L[i].m.cells.toArray) w := by
  have g : ∀ j u, L[i].cells[j]? = some u → (letC L)[i * 13 + j]? = some u := fun j u hu => by
    rw [← List.getElem?_drop, letC_at hi, List.getElem?_append_left]
    · exact hu
    · rcases Nat.lt_or_ge j L[i].cells.length with g | g
      · exact g
      · rw [List.getElem?_eq_none g] at hu; cases hu
  refine ⟨?_, run_loadG aggRM2 rfl (fun j u hu => ?_)⟩
  · have := g 0 (.int .i64 L[i].to) rfl
    rw [Nat.add_zero] at this
    exact rd.at this
  · have := rd.at2 (i := i * 13) (j := 1 + j) (u := u) (g (1 + j) u (by rw [Nat.add_comm]; exact hu))
    rwa [← Nat.add_assoc] at this
theorem chC_at2 {D : List (Int × Bool)} {i : Nat} (h : i < D.length) : (chC D)[i * 2]? = some (.int .i64 D[i].1) ∧ (chC D)[i * 2 + 1]? = some (.bool D[i].2) := by
  induction D generalizing i with
  | nil => cases h
  | cons x D ih =>
    cases i with
    | zero => exact ⟨rfl, rfl⟩
    | succ i =>
      have := ih (i := i) (by simpa using h)
      have e : chC (x :: D) = .int .i64 x.1 :: .bool x.2 :: chC D := rfl
      rw [e, show (i + 1) * 2 = i * 2 + 1 + 1 from by omega, show i * 2 + 1 + 1 + 1 = (i * 2 + 1) + 1 + 1 from rfl]
      exact this
theorem chAt {t : TypeId} (agg : AggT Tryz.prog t 2) {w : World} {b o n c i : Nat} {D : List (Int × Bool)} (rd : RdS w 2 (some ⟨b, o, none⟩) n c (chC D)) (hi : i < D.length) :
    (loadG t (.pointer (some ⟨b, o + i * 2, none⟩))).run Tryz.prog w = .ok (.agg #[.int .i64 D[i].1, .bool D[i].2]) w := run_loadG agg (vs := [.int .i64 D[i].1, .bool D[i].2]) rfl (fun j u hu => by
  obtain ⟨g0, g1⟩ := chC_at2 hi
  match j, hu with
  | 0, hu => cases hu; exact rd.at2 (j := 0) g0
  | 1, hu => cases hu; exact rd.at2 (j := 1) g1)
theorem aggCT : AggT Tryz.prog 143 2 := ⟨⟨_, Tryz.underlying143, rfl⟩, by kernel_rfl⟩
theorem execOp_ldCT (ρ : Operand → Value) (dst : Option Tmp) (a : Operand) (ty : TypeId) (pos : String) (after : Array Edge) (guard : Option (Nat × Bool)) :
    execOp ρ { dst, op := .load 143 a, type := ty, pos, after, guard } = (do pure (.value (← loadG 143 (ρ a)))) := rfl
def neCG (x y : Operand) (a b : Value) : Sem Value := do eqGuard .neq 143 x y a b; Go.binOp .neq 143 a b
theorem execOp_neCG (ρ : Operand → Value) (dst : Option Tmp) (x y : Operand) (r : TypeId) (ty : TypeId) (pos : String) (after : Array Edge) (guard : Option (Nat × Bool)) :
    execOp ρ { dst, op := .binOp .neq 143 x y r, type := ty, pos, after, guard } = (do pure (.value (← neCG x y (ρ x) (ρ y)))) := by simp [execOp, neCG]
theorem run_neCG (x y : Operand) (p : Int) (u : Bool) (w : World) : (neCG x y (.agg #[.int .i64 p, .bool u]) (.agg #[.int .i64 p, .bool u])).run Tryz.prog w = .ok (.bool false) w := by
  unfold neCG
  go_simp

section
variable {W w : World} {R : List HP} {post : Ending → World → Prop}
attribute [local go_sem ↓] execOp_ldRM2 execOp_ldCT execOp_neCG
attribute [local go_sem] run_neCG

set_option maxRecDepth 100000 in
set_option maxHeartbeats 8000000 in
theorem rlettersEq_c {L1 L2 : List LetV} {a b : Option Addr} {n c d : Nat} (hl : L1.length = L2.length) (he : ∀ i (h1 : i < L1.length) (h2 : i < L2.length), L1[i].to = L2[i].to ∧ MsgEq L1[i].m L2[i].m)
    (r1 : Rds W R 13 a n c (letC L1)) (r2 : Rds W R 13 b n d (letC L2)) (p1 : ∀ i (h : i < L1.length), Rds W R 1 L1[i].m.pa L1[i].m.pn L1[i].m.pc (ivs L1[i].m.ps)) (p2 : ∀ i (h : i < L2.length), Rds W R 1 L2[i].m.pa L2[i].m.pn L2[i].m.pc (ivs L2[i].m.ps))
    (st : St W w R) (K : ∀ w', St W w' R → post (.returned (.bool true)) w') : Calls Tryz.prog 34 #[.slice a n c, .slice b n d] w post := by
  have HK := hid K; clear K
  have HE := hid he; have HR1 := hid r1; have HR2 := hid r2; have HP1 := hid p1; have HP2 := hid p2
  have HN : Hid (L1.length = n) := hid (by have := (r1 w st).len; rw [letC_size] at this; omega)
  have HN2 : Hid (L2.length = n) := hid (by rw [← hl]; exact HN.out)
  have big := (r1 w st).big
  clear hl he r1 r2 p1 p2
  go_enter Tryz.func34, Tryz.ntmps34
  go_wp2_with fail
  go_loopw [5] (fun ii wr => ∃ i : Nat, i ≤ n ∧ ii = .int .i64 i ∧ St W wr R) (fun ii _ => n - (intOf ii).toNat)
  case atStart => exact ⟨0, Nat.zero_le _, rfl, st⟩
  case round =>
    clear st
    obtain ⟨i, hi, rfl, sr⟩ := hrel
    by_cases hlt : i < n
    · have hi2 : (i : Int) < (n : Int) := by omega
      obtain ⟨g1, o1, rfl⟩ := (HR1.out _ sr).addr (by omega)
      obtain ⟨g2, o2, rfl⟩ := (HR2.out _ sr).addr (by omega)
      have h1 : i < L1.length := by rw [HN.out]; exact hlt
      have h2 : i < L2.length := by rw [HN2.out]; exact hlt
      have f : ∀ w, St W w R → (w.cell? ⟨g1, o1 + i * 13, none⟩ = some (.int .i64 L1[i].to) ∧ (loadG 75 (.pointer (some ⟨g1, o1 + i * 13 + 1, none⟩))).run Tryz.prog w = .ok (.agg L1[i].m.cells.toArray) w) ∧ (w.cell? ⟨g2, o2 + i * 13, none⟩ = some (.int .i64 L2[i].to) ∧ (loadG 75 (.pointer (some ⟨g2, o2 + i * 13 + 1, none⟩))).run Tryz.prog w = .ok (.agg L2[i].m.cells.toArray) w) :=
        fun w s => ⟨letAt (HR1.out w s) h1, letAt (HR2.out w s) h2⟩
      have e := HE.out i h1 h2
      have q1 := HP1.out i h1; have q2 := HP2.out i h2
      obtain ⟨x, hx⟩ : ∃ x, L1[i] = x := ⟨_, rfl⟩
      obtain ⟨y, hy⟩ : ∃ y, L2[i] = y := ⟨_, rfl⟩
      simp only [hx, hy] at f e q1 q2
      rw [← e.1] at f
      have HF := hid f; have HEE := hid e.2; have HQ1 := hid q1; have HQ2 := hid q2
      have hto : (x.to == y.to) = true := by simpa using e.1
      clear hx hy f e q1 q2 h1 h2
      have u := sr.drew
      obtain ⟨⟨a1, a2⟩, a3, a4⟩ := HF.out _ u
      go_wp2_with fail
      go_region_held3 (fun w' => w'.cell? ⟨g1, o1 + i * 13, none⟩ = some (.int .i64 x.to) ∧ (loadG 75 (.pointer (some ⟨g1, o1 + i * 13 + 1, none⟩))).run Tryz.prog w' = .ok (.agg x.m.cells.toArray) w' ∧ w'.cell? ⟨g2, o2 + i * 13, none⟩ = some (.int .i64 x.to) ∧ (loadG 75 (.pointer (some ⟨g2, o2 + i * 13 + 1, none⟩))).run Tryz.prog w' = .ok (.agg y.m.cells.toArray) w')
        (first
          | with_reducible exact ⟨b1, b2, b3, b4⟩
          | with_reducible exact ⟨a1, a2, a3, a4⟩)
        (first | (go_at_call 76; refine rsame16_c (a := x.m) (b := y.m) HEE.out HQ1.out HQ2.out u ?_; rintro w5 s5; obtain ⟨⟨b1, b2⟩, b3, b4⟩ := HF.out _ s5))
      go_wp2_with fail
      go_roundw
      case rel => exact ⟨i + 1, by omega, by go_num, s5⟩
      case measure => simp [intOf]; omega
    · have hie : n = i := by omega
      subst hie
      go_wp2_with fail
      exact HK.out _ sr

set_option maxRecDepth 100000 in
set_option maxHeartbeats 8000000 in
theorem rchangesEq_c {D : List (Int × Bool)} {a b : Option Addr} {n c d : Nat} (r1 : Rds W R 2 a n c (chC D)) (r2 : Rds W R 2 b n d (chC D))
    (st : St W w R) (K : ∀ w', St W w' R → post (.returned (.bool true)) w') : Calls Tryz.prog 35 #[.slice a n c, .slice b n d] w post := by
  have HK := hid K; clear K
  have HR1 := hid r1; have HR2 := hid r2
  have HN : Hid (D.length = n) := hid (by have := (r1 w st).len; rw [chC_size] at this; omega)
  have big := (r1 w st).big
  clear r1 r2
  go_enter Tryz.func35, Tryz.ntmps35
  go_wp2_with fail
  go_loopw [5] (fun ii wr => ∃ i : Nat, i ≤ n ∧ ii = .int .i64 i ∧ St W wr R) (fun ii _ => n - (intOf ii).toNat)
  case atStart => exact ⟨0, Nat.zero_le _, rfl, st⟩
  case round =>
    clear st
    obtain ⟨i, hi, rfl, sr⟩ := hrel
    by_cases hlt : i < n
    · have hi2 : (i : Int) < (n : Int) := by omega
      obtain ⟨g1, o1, rfl⟩ := (HR1.out _ sr).addr (by omega)
      obtain ⟨g2, o2, rfl⟩ := (HR2.out _ sr).addr (by omega)
      have h1 : i < D.length := by rw [HN.out]; exact hlt
      have u := sr.drew
      have a1 := chAt aggCT (HR1.out _ u) h1
      have a2 := chAt aggCT (HR2.out _ u) h1
      obtain ⟨x, hx⟩ : ∃ x, D[i] = x := ⟨_, rfl⟩
      rw [hx] at a1 a2
      clear hx h1
      go_wp2_with fail
      go_region_held3 (fun w' => (loadG 143 (.pointer (some ⟨g1, o1 + i * 2, none⟩))).run Tryz.prog w' = .ok (.agg #[.int .i64 x.1, .bool x.2]) w' ∧ (loadG 143 (.pointer (some ⟨g2, o2 + i * 2, none⟩))).run Tryz.prog w' = .ok (.agg #[.int .i64 x.1, .bool x.2]) w') (exact ⟨a1, a2⟩) (fail)
      go_wp2_with fail
      go_roundw
      case rel => exact ⟨i + 1, by omega, by go_num, u⟩
      case measure => simp [intOf]; omega
    · have hie : n = i := by omega
      subst hie
      go_wp2_with fail
      exact HK.out _ sr
end

end Go.Proofs.YtbpdchaeakihkaaGreat

/- The document's overlay: New; the program's changes as the document's; a configuration that may not be. -/
namespace Go.Proofs.YtbpdchaeakihkaaGreat
open Go.RowKit Go.Qd

/-- The document's new overlay. -/
def newR (c : List Int) (self : Int) (D : List Int) (a : Option Addr) (n k : Nat) : RO := ⟨newO c self D, a, n, k, none, 0, 0, none, 0, 0⟩
def bld96 (x y z e : Value) : Sem Value := Instr.build 96 #[(0, x), (1, y), (2, z), (5, e)]
theorem execOp_bld96 (ρ : Operand → Value) (dst : Option Tmp) (x y z e : Operand) (ty : TypeId) (pos : String) (after : Array Edge) (guard : Option (Nat × Bool)) :
    execOp ρ { dst, op := .build 96 #[(0, x), (1, y), (2, z), (5, e)], type := ty, pos, after, guard } = (do pure (.value (← bld96 (ρ x) (ρ y) (ρ z) (ρ e)))) := by simp [execOp, bld96]
theorem run_bld96 {c : List Int} (hc : c.length = 20) (self am pm : Int) (D : List Int) (a : Option Addr) (n k : Nat) (w : World) (h5 : c.getD 5 0 = am) (h6 : c.getD 6 0 = pm) :
    (bld96 (.agg (ivs c).toArray) (.agg (refCells ⟨self, [], am, [], pm⟩).toArray) (.slice a n k) (.int .i64 (-1))).run Tryz.prog w = .ok (.agg (newR c self D a n k).cells.toArray) w := by
  subst h5 h6
  obtain ⟨x0, x1, x2, x3, x4, x5, x6, x7, x8, x9, x10, x11, x12, x13, x14, x15, x16, x17, x18, x19, rfl⟩ := list20 hc
  kernel_rfl
def bld96z : Sem Value := Instr.build 96 #[]
theorem execOp_bld96z (ρ : Operand → Value) (dst : Option Tmp) (ty : TypeId) (pos : String) (after : Array Edge) (guard : Option (Nat × Bool)) :
    execOp ρ { dst, op := .build 96 #[], type := ty, pos, after, guard } = (do pure (.value (← bld96z))) := by simp [execOp, bld96z]
theorem run_bld96z (w : World) : bld96z.run Tryz.prog w = .ok (.agg zeroRO.cells.toArray) w := by kernel_rfl
theorem execOp_ldCfg (ρ : Operand → Value) (dst : Option Tmp) (a : Operand) (ty : TypeId) (pos : String) (after : Array Edge) (guard : Option (Nat × Bool)) :
    execOp ρ { dst, op := .load 23 a, type := ty, pos, after, guard } = (do pure (.value (← loadG 23 (ρ a)))) := rfl
theorem ldCfg {w W : World} {T : Nat} {c : List Int} {R : List HP} (hc : c.length = 20) (s : St W w (row T 0 (ivs c) :: R)) : (loadG 23 (.pointer (some ⟨T, 0, none⟩))).run Tryz.prog w = .ok (.agg (ivs c).toArray) w := run_loadG agg23 (ivs_len20 hc) s.rowAll
theorem zeroCH (w : World) : (zeroValue 85).run Tryz.prog w = .ok (.agg #[.int .i64 0, .bool false]) w := by kernel_rfl

section
variable {W w : World} {R : List HP} {post : Ending → World → Prop} {c : List Int} {self : Int} {D : List Int} {a : Option Addr} {n k : Nat}
attribute [local go_sem ↓] execOp_bld96 execOp_bld96z execOp_ldCfg
attribute [local go_sem] run_bld96z

set_option maxRecDepth 100000 in
set_option maxHeartbeats 4000000 in
theorem rnewO_cfg (hc : c.length = 20) (hr : rightB c = false) (st : St W w R) (K : ∀ w', St W w' R → post (.returned (.tuple #[.agg zeroRO.cells.toArray, .int .i64 14])) w') :
    Calls Tryz.prog 32 #[.int .i64 self, .agg (ivs c).toArray, .slice a n k] w post := by
  have HK := hid K; clear K
  have HC := hid hc; have HR := hid hr
  clear hc hr
  go_enter Tryz.func32, Tryz.ntmps32
  go_wp2_with (first
    | (refine wpl_boxA (vs := ivs c) rfl (.tmp 1) rfl rfl st ?_; rintro T w1 s1)
    | (refine wpl_allocA rfl rfl zeroRO_z s1 ?_; rintro E w2 s2; have l2 := ldCfg HC.out (St.pick 1 s2))
    | (go_at_call 11; refine right_c s2 HC.out ?_; rintro w3 s3; rw [HR.out])
    | (refine wpl_storeA (vs := zeroRO.cells) rfl (.tmp 6) (.tmp 13) (by rfl) aggRO (by rfl) (by rfl) zeroRO_len (RO.one _) s3 zeroRO_len ?_; rintro w9 s9))
  have hL := run_loadA aggRO zeroRO_len s9.rowAll
  exact bodyPost_ret (v := .tuple #[.agg zeroRO.cells.toArray, .int .i64 14]) (by simp [results, Tryz.results32, asAddr, hL]) rfl (HK.out _ (s9.dropN 2))

set_option maxRecDepth 100000 in
set_option maxHeartbeats 4000000 in
theorem rnewO_self (hc : c.length = 20) (hr : rightB c = true) (hs : ¬ (0 ≤ self ∧ self < c.getD 0 0)) (st : St W w R) (K : ∀ w', St W w' R → post (.returned (.tuple #[.agg zeroRO.cells.toArray, .int .i64 1])) w') :
    Calls Tryz.prog 32 #[.int .i64 self, .agg (ivs c).toArray, .slice a n k] w post := by
  have HK := hid K; clear K
  have HC := hid hc; have HR := hid hr
  obtain ⟨c0, e0⟩ : ∃ c0, c.getD 0 0 = c0 := ⟨_, rfl⟩
  have H0 := hid e0
  rw [e0] at hs
  clear hc hr e0
  by_cases h0 : 0 ≤ self
  · have d0 : decide (self < 0) = false := decide_eq_false (by omega)
    have d1 : decide (c0 ≤ self) = true := decide_eq_true (by omega)
    clear hs h0
    go_enter Tryz.func32, Tryz.ntmps32
    go_wp2_with (first
      | (refine wpl_boxA (vs := ivs c) rfl (.tmp 1) rfl rfl st ?_; rintro T w1 s1)
      | (refine wpl_allocA rfl rfl zeroRO_z s1 ?_; rintro E w2 s2; have l2 := ldCfg HC.out (St.pick 1 s2))
      | (go_at_call 11; refine right_c s2 HC.out ?_; rintro w3 s3; rw [HR.out]; have k0 := cfg_at (St.pick 1 s3) (i := 0) (by rw [HC.out]; decide); rw [H0.out] at k0)
      | (refine wpl_storeA (vs := zeroRO.cells) rfl (.tmp 6) (.tmp 22) (by rfl) aggRO (by rfl) (by rfl) zeroRO_len (RO.one _) s3 zeroRO_len ?_; rintro w9 s9))
    have hL := run_loadA aggRO zeroRO_len s9.rowAll
    exact bodyPost_ret (v := .tuple #[.agg zeroRO.cells.toArray, .int .i64 1]) (by simp [results, Tryz.results32, asAddr, hL]) rfl (HK.out _ (s9.dropN 2))
  · have d0 : decide (self < 0) = true := decide_eq_true (by omega)
    clear hs h0
    go_enter Tryz.func32, Tryz.ntmps32
    go_wp2_with (first
      | (refine wpl_boxA (vs := ivs c) rfl (.tmp 1) rfl rfl st ?_; rintro T w1 s1)
      | (refine wpl_allocA rfl rfl zeroRO_z s1 ?_; rintro E w2 s2; have l2 := ldCfg HC.out (St.pick 1 s2))
      | (go_at_call 11; refine right_c s2 HC.out ?_; rintro w3 s3; rw [HR.out]; have k0 := cfg_at (St.pick 1 s3) (i := 0) (by rw [HC.out]; decide); rw [H0.out] at k0)
      | (refine wpl_storeA (vs := zeroRO.cells) rfl (.tmp 6) (.tmp 22) (by rfl) aggRO (by rfl) (by rfl) zeroRO_len (RO.one _) s3 zeroRO_len ?_; rintro w9 s9))
    have hL := run_loadA aggRO zeroRO_len s9.rowAll
    exact bodyPost_ret (v := .tuple #[.agg zeroRO.cells.toArray, .int .i64 1]) (by simp [results, Tryz.results32, asAddr, hL]) rfl (HK.out _ (s9.dropN 2))

set_option maxRecDepth 100000 in
set_option maxHeartbeats 4000000 in
theorem rnewO_c (hc : c.length = 20) (hr : rightB c = true) (hs : 0 ≤ self ∧ self < c.getD 0 0) (st : St W w R) (K : ∀ w', St W w' R → post (.returned (.tuple #[.agg (newR c self D a n k).cells.toArray, .int .i64 0])) w') :
    Calls Tryz.prog 32 #[.int .i64 self, .agg (ivs c).toArray, .slice a n k] w post := by
  have HK := hid K; clear K
  have HC := hid hc; have HR := hid hr
  obtain ⟨h5, h6, h0⟩ := cfg_views hc hr
  have HLn : Hid ((newR c self D a n k).ok) := hid ⟨hc, rfl⟩
  obtain ⟨c0, e0⟩ : ∃ c0, c.getD 0 0 = c0 := ⟨_, rfl⟩
  obtain ⟨am, e5⟩ : ∃ c0, c.getD 5 0 = c0 := ⟨_, rfl⟩
  obtain ⟨pm, e6⟩ : ∃ c0, c.getD 6 0 = c0 := ⟨_, rfl⟩
  have H0 := hid e0; have H5 := hid e5; have H6 := hid e6
  rw [e0] at hs h0
  rw [e5] at h5
  rw [e6] at h6
  have HV : Hid (nodeB self = true ∧ (1 ≤ am ∧ am < 12) ∧ (1 ≤ pm ∧ pm < 12)) := hid ⟨nodeB_iff.2 (by omega), h5, h6⟩
  have d0 : decide (self < 0) = false := decide_eq_false (by omega)
  have d1 : decide (c0 ≤ self) = false := decide_eq_false (by omega)
  clear hc hr e0 e5 e6 hs h0 h5 h6
  go_enter Tryz.func32, Tryz.ntmps32
  go_wp2_with (first
    | (refine wpl_boxA (vs := ivs c) rfl (.tmp 1) rfl rfl st ?_; rintro T w1 s1)
    | (refine wpl_allocA rfl rfl zeroRO_z s1 ?_; rintro E w2 s2; have l2 := ldCfg HC.out (St.pick 1 s2))
    | (go_at_call 11; refine right_c s2 HC.out ?_; rintro w3 s3; rw [HR.out]; have k0 := cfg_at (St.pick 1 s3) (i := 0) (by rw [HC.out]; decide); rw [H0.out] at k0; have k5 := cfg_at (St.pick 1 s3) (i := 5) (by rw [HC.out]; decide); rw [H5.out] at k5; have k6 := cfg_at (St.pick 1 s3) (i := 6) (by rw [HC.out]; decide); rw [H6.out] at k6)
    | (go_at_call 70; refine rnew_c s3 HV.out ?_; rintro w4 s4)
    | (refine wpl_allocA rfl rfl zeroRV s4 ?_; rintro U w5 s5)
    | (refine wpl_storeA (vs := refCells ⟨self, [], am, [], pm⟩) rfl (.tmp 8) (.tmp 30) (by rfl) aggRV (by rfl) (by rfl) (refCells_len _) (refCells_one _) s5 rfl ?_; rintro w6 s6
       have l6 := ldCfg HC.out (St.pick 2 s6)
       have hB := run_bld96 HC.out self am pm D a n k w6 H5.out H6.out)
    | (refine wpl_loadA (vs := refCells ⟨self, [], am, [], pm⟩) rfl (.tmp 8) (by rfl) aggRV (by rfl) (refCells_len _) (St.rowAll (o := 0) s6) ?_)
    | (refine wpl_storeA (vs := (newR c self D a n k).cells) rfl (.tmp 6) (.tmp 35) (by rfl) aggRO (by rfl) (by rfl) (RO.len HLn.out) (RO.one _) (St.pick 1 s6) zeroRO_len ?_; rintro w9 s9))
  have hL := run_loadA aggRO (RO.len HLn.out) s9.rowAll
  exact bodyPost_ret (v := .tuple #[.agg (newR c self D a n k).cells.toArray, .int .i64 0]) (by simp [results, Tryz.results32, asAddr, hL]) rfl (HK.out _ (s9.dropN 3))

attribute [local go_sem ↓] execOp_buildCT execOp_bsCT execOp_load85
attribute [local go_sem] run_buildCT run_bsCT
set_option maxRecDepth 100000 in
set_option maxHeartbeats 8000000 in
theorem lawChanges_c {C : List (Int × Bool)} {ca : Option Addr} {cn cc : Nat} (st : St W w (OwnS 2 ca cn cc (chC C) :: R)) (hb : C.length ≤ 1000)
    (K : ∀ a c w', St W w' (OwnS 2 a cn c (chC C) :: OwnS 2 ca cn cc (chC C) :: R) → post (.returned (.slice a cn c)) w') :
    Calls Tryz.prog 36 #[.slice ca cn cc] w post := by
  have HK := hid K; clear K
  have rd0 := OwnS.rd st
  have hcn : C.length = cn := by have := rd0.len; rw [chC_size] at this; omega
  have HN := hid hcn
  have hb2 : cn ≤ 1000 := by omega
  have u0 := OwnS.empty (sz := 2) ((St.alloc st #[] 143).drop) (some ⟨w.heap.size, 0, none⟩)
  clear rd0 hcn hb
  go_enter Tryz.func36, Tryz.ntmps36
  go_wp2_with fail
  go_loopw [3, 9] (fun ov ii wr => ∃ (i : Nat) (a : Option Addr) (c : Nat), i ≤ cn ∧ ii = .int .i64 i ∧ ov = .slice a i c ∧ St W wr (OwnS 2 a i c (chC (C.take i)) :: OwnS 2 ca cn cc (chC C) :: R)) (fun _ ii _ => cn - (intOf ii).toNat)
  case atStart => exact ⟨0, _, 0, Nat.zero_le _, rfl, rfl, u0⟩
  case round =>
    clear u0
    obtain ⟨i, a, c, hi, rfl, rfl, sr⟩ := hrel
    by_cases hlt : i < cn
    · have hi2 : (i : Int) < (cn : Int) := by omega
      have rd := OwnS.rd (St.pick 1 sr)
      obtain ⟨g3, o3, rfl⟩ := rd.addr (by omega)
      have hiA : i < C.length := by rw [HN.out]; exact hlt
      have ci := chAt agg85 rd hiA
      have hsn : chC (C.take (i + 1)) = chC (C.take i) ++ [.int .i64 C[i].1, .bool C[i].2] := by rw [List.take_succ_eq_append_getElem hiA, chC_snoc]
      obtain ⟨q, hq⟩ : ∃ q, C[i] = q := ⟨_, rfl⟩
      rw [hq] at ci hsn
      obtain ⟨p, u⟩ := q
      have HS := hid hsn
      have hb1 : (i + 1) * 16 ≤ 140737488355328 := by omega
      have hm1 : i + 1 ≤ maxLen := by unfold maxLen; omega
      clear hq hsn rd hiA
      have CJ : (loadG 85 (.pointer (some ⟨g3, o3 + i * 2, none⟩))).run Tryz.prog wr = .ok (.agg #[.int .i64 p, .bool u]) wr := ci
      clear ci
      go_wp2_with (first
        | (refine wpl_allocA rfl rfl zeroCH sr ?_; rintro Q w2 s2)
        | (refine wpl_storeA (vs := [.int .i64 p, .bool u]) rfl (.tmp 5) (.tmp 12) (by rfl) agg85 (by rfl) (by rfl) rfl (ch_ones _ _) s2 rfl ?_; rintro w3 s3; obtain ⟨d0, d1, _, _⟩ := boxQ s3; rw [Nat.zero_add] at d1
           have s4 := s3.alloc #[.int .i64 p, .bool u] 143)
        | (at_builtin; refine wpl_append rfl (.tmp 13) (.tmp 19) rfl Tryz.elem94 rfl rfl (St.pick 2 s4) (St.rowRd (sz := 2) (n := 1) s4 rfl (by decide) (ch_ones _ _)) hb1 hm1 ?_; rintro a5 c5 w5 s5))
      go_roundw
      case rel => exact ⟨i + 1, a5, c5, by omega, by go_num, rfl, by rw [HS.out]; exact St.drop (St.pick 1 (St.drop (St.pick 1 s5)))⟩
      case measure => simp [intOf]; omega
    · have hie : cn = i := by omega
      subst hie
      rw [List.take_of_length_le (by rw [HN.out]; exact Nat.le_refl _)] at sr
      go_wp2_with fail
      exact HK.out _ _ _ sr
end

end Go.Proofs.YtbpdchaeakihkaaGreat

/- A configuration that may not be: the program's Check and New. -/
namespace Go.Proofs.YtbpdchaeakihkaaGreat
open Go.RowKit Go.Qd
section
variable {W w : World} {R : List HP} {post : Ending → World → Prop} {c : List Int}
set_option maxRecDepth 100000 in
set_option maxHeartbeats 4000000 in
theorem scheck_bad (st : St W w R) (hc : c.length = 20) (hr : rightB c = false) (K : ∀ (i : Int) w', St W w' R → post (.returned (.tuple #[.int .i64 i, .int .i64 14])) w') : Calls Tryz.prog 39 #[.agg (ivs c).toArray] w post := by
  have HK := hid K; clear K
  have HC := hid hc; have HR := hid hr; clear hc hr
  go_enter Tryz.func39, Tryz.ntmps39
  go_wp2_with (first
    | (refine wpl_boxA (vs := ivs c) rfl (.tmp 0) rfl rfl st ?_; rintro T w0 s0)
    | (refine wpl_loadA (vs := ivs c) rfl (.tmp 1) (by rfl) agg32 (by rfl) (ivs_len20 HC.out) (St.pick 1 s3).rowAll ?_)
    | (refine wpl_loadA (vs := ivs c) rfl (.tmp 1) (by rfl) agg32 (by rfl) (ivs_len20 HC.out) s0.rowAll ?_)
    | (go_at_call 80; refine list_setup_c s0 HC.out ?_; rintro w1 s1)
    | (refine wpl_allocA rfl rfl zero22 s1 ?_; rintro L w2 s2)
    | (refine wpl_storeA (vs := ivs c) rfl (.tmp 4) (.tmp 8) (by rfl) agg22 (by rfl) (by rfl) (ivs_len20 HC.out) (ivs_one _) s2 rfl ?_; rintro w3 s3)
    | (go_at_call 81; refine spans_c s3 HC.out ?_; rintro w4 s4))
  go_loopw [11] (fun ii wr => ∃ i : Nat, i ≤ 20 ∧ ii = .int .i64 i ∧ Hid (∀ j, j < i → fineAt c j = true) ∧ St W wr (row L 0 (ivs c) :: row T 0 (ivs c) :: R)) (fun ii _ => 20 - (intOf ii).toNat)
  case atStart => exact ⟨0, Nat.zero_le _, rfl, hid (fun _ h => absurd h (Nat.not_lt_zero _)), s4⟩
  case round =>
    obtain ⟨i, hi, rfl, HA, sr⟩ := hrel
    by_cases hlt : i < 20
    · have hi20 : (i : Int) < 20 := by omega
      obtain ⟨x, hx⟩ : ∃ x, c.getD i 0 = x := ⟨_, rfl⟩
      have hsp := spansC_at c hlt
      obtain ⟨lo, hl⟩ : ∃ lo, leastF c i = lo := ⟨_, rfl⟩
      obtain ⟨up, hu⟩ : ∃ up, mostF c i = up := ⟨_, rfl⟩
      have hfin : fineAt c i = (!decide (x < lo) && !decide (up < x)) := by
        unfold fineAt
        rw [hx, hl, hu]
        by_cases g1 : x < lo <;> by_cases g2 : up < x <;> simp [g1, g2] <;> omega
      rw [hl, hu] at hsp
      have HSP := hid hsp
      have HFI := hid hfin
      have s5 := sr.alloc #[.int .i64 lo, .int .i64 up] 148
      have c1 := cfg_at (St.pick 1 s5) (i := i) (by rw [HC.out]; omega)
      obtain ⟨b0, b1⟩ := boxP s5
      rw [hx] at c1
      obtain ⟨d1, e1⟩ : ∃ b, decide (x < lo) = b := ⟨_, rfl⟩
      obtain ⟨d2, e2⟩ : ∃ b, decide (up < x) = b := ⟨_, rfl⟩
      have HD := hid (And.intro e1 e2)
      clear hx hsp hl hu hfin
      cases d1 with
      | true =>
        clear e2
        go_wp2_with (refine wpl_index rfl (.tmp 10) (.tmp 11) rfl (by rfl) (by rfl) (run_index2 Tryz.underlying149 agg148 hlt HSP.out) ?_)
        go_quiet (fail)
        have s6 := s5.drewN nq
        generalize (wr.alloc (.cells #[.int .i64 lo, .int .i64 up] 148)).drewN nq = w6 at s6 ⊢
        go_wp2_with fail
        exact HK.out _ _ (s6.dropN 3)
      | false =>
        cases d2 with
        | true =>
          go_wp2_with (refine wpl_index rfl (.tmp 10) (.tmp 11) rfl (by rfl) (by rfl) (run_index2 Tryz.underlying149 agg148 hlt HSP.out) ?_)
          go_quiet (fail)
          have s6 := s5.drewN nq
          generalize (wr.alloc (.cells #[.int .i64 lo, .int .i64 up] 148)).drewN nq = w6 at s6 ⊢
          go_wp2_with fail
          exact HK.out _ _ (s6.dropN 3)
        | false =>
          go_wp2_with (refine wpl_index rfl (.tmp 10) (.tmp 11) rfl (by rfl) (by rfl) (run_index2 Tryz.underlying149 agg148 hlt HSP.out) ?_)
          go_quiet (fail)
          have s6 := s5.drewN nq
          generalize (wr.alloc (.cells #[.int .i64 lo, .int .i64 up] 148)).drewN nq = w6 at s6 ⊢
          go_wp2_with fail
          go_roundw
          case rel => exact ⟨i + 1, by omega, by go_num, hid (fun j hj => by
            by_cases g : j < i
            · exact HA.out j g
            · have : j = i := by omega
              subst this
              rw [HFI.out, HD.out.1, HD.out.2]; rfl), s6.drop⟩
          case measure => simp [intOf]; omega
    · have hi20 : i = 20 := by omega
      subst hi20
      exfalso
      have h1 : rightB c = true := rightB_iff.2 HA.out
      rw [HR.out] at h1
      cases h1

set_option maxRecDepth 100000 in
set_option maxHeartbeats 2000000 in
theorem onew_cfg {self : Int} {d : Nat} (st : St W w R) (hc : c.length = 20) (hr : rightB c = false)
    (K : ∀ w', St W w' R → post (.returned (.tuple #[.pointer none, .int .i64 14])) w') :
    Calls Tryz.prog 12 #[.int .i64 self, .agg (ivs c).toArray, .pointer (some ⟨d, 0, none⟩)] w post := by
  have HK := hid K; clear K
  have HC := hid hc; have HR := hid hr
  clear hc hr
  go_enter Tryz.func12, Tryz.ntmps12
  go_wp2_with (first
    | (refine wpl_boxA (vs := ivs c) rfl (.tmp 1) rfl rfl st ?_; rintro T w0 t0)
    | (refine wpl_loadA (vs := ivs c) rfl (.tmp 4) (by rfl) agg32 (by rfl) (ivs_len20 HC.out) t0.rowAll ?_)
    | (go_at_call 39; refine scheck_bad t0 HC.out HR.out ?_; rintro i w1 t1))
  exact HK.out _ t1.drop
set_option maxRecDepth 100000 in
set_option maxHeartbeats 2000000 in
theorem onew_self {self : Int} {d : Nat} (st : St W w R) (hc : c.length = 20) (hr : rightB c = true) (hs : ¬ (0 ≤ self ∧ self < c.getD 0 0))
    (K : ∀ w', St W w' R → post (.returned (.tuple #[.pointer none, .int .i64 1])) w') :
    Calls Tryz.prog 12 #[.int .i64 self, .agg (ivs c).toArray, .pointer (some ⟨d, 0, none⟩)] w post := by
  have HK := hid K; clear K
  have HC := hid hc; have HR := hid hr
  obtain ⟨n, hn⟩ : ∃ n, c.getD 0 0 = n := ⟨_, rfl⟩
  have HN := hid hn
  rw [hn] at hs
  clear hc hr hn
  by_cases h0 : 0 ≤ self
  · have g0 : decide (self < 0) = false := decide_eq_false (by omega)
    have g1 : decide (n ≤ self) = true := decide_eq_true (by omega)
    clear hs h0
    go_enter Tryz.func12, Tryz.ntmps12
    go_wp2_with (first
      | (refine wpl_boxA (vs := ivs c) rfl (.tmp 1) rfl rfl st ?_; rintro T w0 t0)
      | (refine wpl_loadA (vs := ivs c) rfl (.tmp 4) (by rfl) agg32 (by rfl) (ivs_len20 HC.out) t0.rowAll ?_)
      | (go_at_call 39; refine scheck_c t0 HC.out HR.out ?_; rintro w1 t1; have k0 := cfg_at t1 (i := 0) (by rw [HC.out]; decide); rw [HN.out] at k0))
    exact HK.out _ t1.drop
  · have g0 : decide (self < 0) = true := decide_eq_true (by omega)
    clear hs h0
    go_enter Tryz.func12, Tryz.ntmps12
    go_wp2_with (first
      | (refine wpl_boxA (vs := ivs c) rfl (.tmp 1) rfl rfl st ?_; rintro T w0 t0)
      | (refine wpl_loadA (vs := ivs c) rfl (.tmp 4) (by rfl) agg32 (by rfl) (ivs_len20 HC.out) t0.rowAll ?_)
      | (go_at_call 39; refine scheck_c t0 HC.out HR.out ?_; rintro w1 t1; have k0 := cfg_at t1 (i := 0) (by rw [HC.out]; decide); rw [HN.out] at k0))
    exact HK.out _ t1.drop
end

end Go.Proofs.YtbpdchaeakihkaaGreat
