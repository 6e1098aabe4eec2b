/- The law RumorCaps: the walk. Printed by mkCapW.py. -/
import Derived.Test.YtojfjbbggpfijaaGreatDoorCapL
import Derived.Test.YtojfjbbggpfijaaGreatDoorTicT
import Derived.Test.YtojfjbbggpfijaaGreatDoorLawC
import Derived.Test.YtojfjbbggpfijaaGreatDoorFirsts
import Derived.Test.YtojfjbbggpfijaaGreatDoorActs
import Derived.Test.YtojfjbbggpfijaaGreatDoorRumsB
import Derived.Deep.CutBlock
namespace Go.Proofs.YtojfjbbggpfijaaGreatDoor
open Go.RowKit Go.Qd RepV

theorem agg_let : AggT Tryz.prog 65 13 := ⟨⟨_, Tryz.underlying65, rfl⟩, by kernel_rfl⟩
theorem zero_let (w : World) : (zeroValue 65).run Tryz.prog w = .ok (.agg (LetV.cells ⟨0, kindM 0⟩).toArray) w := by kernel_rfl
def ltC (L : List LetV) : List Value := (L.map LetV.cells).flatten
theorem ltC_sz (L : List LetV) : (ltC L).length = L.length * 13 := by
  induction L with
  | nil => rfl
  | cons x L ih => show (x.cells ++ ltC L).length = _; rw [List.length_append, ih, List.length_cons]; simp [LetV.cells, MsgV.cells]; omega
theorem lt_one (x : LetV) : ∀ u ∈ x.cells, u.oneCell' = true := by
  intro u hu
  rcases List.mem_cons.1 hu with rfl | hu
  · rfl
  · exact msg_one _ u hu
/-- A fresh letter is a slice of one. -/
theorem ownLet {W w : World} {R : List HP} {b : Nat} {x : LetV} (s : St W w (row b 0 x.cells :: R)) : St W w (OwnS 13 (some ⟨b, 0, none⟩) 1 1 (ltC [x]) :: R) := by
  have e : ltC [x] = x.cells := by simp [ltC]
  refine OwnS.close (sp := []) ⟨by rw [e]; rfl, rfl, Nat.le_refl _, by unfold maxLen; decide, by simp, fun _ => ⟨_, _, rfl⟩, by rw [e]; exact lt_one x⟩ ?_
  rw [e, List.append_nil]
  exact s
theorem ltC_get {l : List LetV} {i : Nat} (hi : i < l.length) {j : Nat} {u : Value} (h : l[i].cells[j]? = some u) : (ltC l)[i * 13 + j]? = some u := by
  have hj : j < 13 := by
    rcases Nat.lt_or_ge j 13 with g | g
    · exact g
    · rw [List.getElem?_eq_none (by simpa [LetV.cells, MsgV.cells] using g)] at h; cases h
  have := flat_get (css := l.map LetV.cells) (sz := 13) (fun cs hc => by obtain ⟨x, _, rfl⟩ := List.mem_map.1 hc; rfl) (i := i) (by simpa using hi) (j := j) hj
  unfold ltC; rw [this, List.getElem_map]; exact h
section
attribute [local go_sem ↓] execOp_ldAny
variable {W : World} {post : Ending → World → Prop}
set_option maxRecDepth 100000 in
set_option maxHeartbeats 64000000 in
theorem rumorCaps_c {c : List Int} {self : Int} {ad a : Option Addr} {nd cd n cp : Nat} {ds : List Int} {l : List MAct} (hc : c.length = 20) (hf : FirstW W) (hd : RdS W 1 ad nd cd (ivs ds)) (rd : RdS W 25 a n cp (mactC l)) (hr : ∀ x ∈ l, x.reads W)
    (K : ∀ W2, Below W.heap.size W W2 → post (.returned (.bool true)) W2) :
    Calls Tryz.prog 5 #[.int .i64 self, .agg (ivs c).toArray, .slice ad nd cd, .slice a n cp] W post := by
  have HK := hid K; clear K
  have HC := hid hc; have HF := hid hf; have HDR := hid hd; have HRD := hid rd; have HRR := hid hr
  have HLN : Hid (l.length = n) := hid (mactC_ln rd)
  have HBIG := hid rd.big
  obtain ⟨nn, hnn⟩ : ∃ z, c.getD 0 0 = z := ⟨_, rfl⟩
  have HN0 := hid hnn
  clear hc hf hd rd hr hnn
  cases hdd : decide (100 < (nd : Int)) with
  | true =>
    go_enter Tryz.func5, Tryz.ntmps5
    go_wp2_with (first
      | (refine wpl_boxA (vs := ivs c) rfl (.tmp 1) rfl rfl (St.init W) ?_; rintro C w1 s1)
      | (go_at_call 6; have gg := s4; refine speaks_c HF.out s4 ?_; clear gg; rintro w9 s9)
      | (go_at_call 6; have gg := s3; refine speaks_c HF.out s3 ?_; clear gg; rintro w9 s9)
      | (go_at_call 6; refine speaks_c HF.out s1 ?_; rintro w2 s2)
      | (go_at_call 7; refine few20_c s2 (HRD.out.rds _) HRR.out ?_; rintro w3 (_ | _) s3 hb; all_goals (have HFW := hid hb; clear hb; obtain ⟨lC, l0, _⟩ := cfgLd HC.out s3; rw [HN0.out] at l0))
      | (go_at_call 8; refine right_c s3 HC.out ?_; rintro w4 s4; rw [HRB.out]; clear lC l0; obtain ⟨lC, l0, _⟩ := cfgLd HC.out s4; rw [HN0.out] at l0))
    all_goals exact HK.out _ s9.below
  | false =>
  have HDD := hid hdd
  obtain ⟨rb, hrb⟩ : ∃ b, rightB c = b := ⟨_, rfl⟩
  have HRB := hid hrb; clear hrb
  cases rb with
  | false =>
    go_enter Tryz.func5, Tryz.ntmps5
    go_wp2_with (first
      | (refine wpl_boxA (vs := ivs c) rfl (.tmp 1) rfl rfl (St.init W) ?_; rintro C w1 s1)
      | (go_at_call 6; have gg := s4; refine speaks_c HF.out s4 ?_; clear gg; rintro w9 s9)
      | (go_at_call 6; have gg := s3; refine speaks_c HF.out s3 ?_; clear gg; rintro w9 s9)
      | (go_at_call 6; refine speaks_c HF.out s1 ?_; rintro w2 s2)
      | (go_at_call 7; refine few20_c s2 (HRD.out.rds _) HRR.out ?_; rintro w3 (_ | _) s3 hb; all_goals (have HFW := hid hb; clear hb; obtain ⟨lC, l0, _⟩ := cfgLd HC.out s3; rw [HN0.out] at l0))
      | (go_at_call 8; refine right_c s3 HC.out ?_; rintro w4 s4; rw [HRB.out]; clear lC l0; obtain ⟨lC, l0, _⟩ := cfgLd HC.out s4; rw [HN0.out] at l0))
    all_goals exact HK.out _ s9.below
  | true =>
  cases d0 : decide (self < 0) with
  | true =>
    go_enter Tryz.func5, Tryz.ntmps5
    go_wp2_with (first
      | (refine wpl_boxA (vs := ivs c) rfl (.tmp 1) rfl rfl (St.init W) ?_; rintro C w1 s1)
      | (go_at_call 6; have gg := s4; refine speaks_c HF.out s4 ?_; clear gg; rintro w9 s9)
      | (go_at_call 6; have gg := s3; refine speaks_c HF.out s3 ?_; clear gg; rintro w9 s9)
      | (go_at_call 6; refine speaks_c HF.out s1 ?_; rintro w2 s2)
      | (go_at_call 7; refine few20_c s2 (HRD.out.rds _) HRR.out ?_; rintro w3 (_ | _) s3 hb; all_goals (have HFW := hid hb; clear hb; obtain ⟨lC, l0, _⟩ := cfgLd HC.out s3; rw [HN0.out] at l0))
      | (go_at_call 8; refine right_c s3 HC.out ?_; rintro w4 s4; rw [HRB.out]; clear lC l0; obtain ⟨lC, l0, _⟩ := cfgLd HC.out s4; rw [HN0.out] at l0))
    all_goals exact HK.out _ s9.below
  | false =>
  cases d1 : decide (nn ≤ self) with
  | true =>
    go_enter Tryz.func5, Tryz.ntmps5
    go_wp2_with (first
      | (refine wpl_boxA (vs := ivs c) rfl (.tmp 1) rfl rfl (St.init W) ?_; rintro C w1 s1)
      | (go_at_call 6; have gg := s4; refine speaks_c HF.out s4 ?_; clear gg; rintro w9 s9)
      | (go_at_call 6; have gg := s3; refine speaks_c HF.out s3 ?_; clear gg; rintro w9 s9)
      | (go_at_call 6; refine speaks_c HF.out s1 ?_; rintro w2 s2)
      | (go_at_call 7; refine few20_c s2 (HRD.out.rds _) HRR.out ?_; rintro w3 (_ | _) s3 hb; all_goals (have HFW := hid hb; clear hb; obtain ⟨lC, l0, _⟩ := cfgLd HC.out s3; rw [HN0.out] at l0))
      | (go_at_call 8; refine right_c s3 HC.out ?_; rintro w4 s4; rw [HRB.out]; clear lC l0; obtain ⟨lC, l0, _⟩ := cfgLd HC.out s4; rw [HN0.out] at l0))
    all_goals exact HK.out _ s9.below
  | false =>
  have HS : Hid (0 ≤ self ∧ self < c.getD 0 0) := hid (by have h0 := of_decide_eq_false d0; have h1 := of_decide_eq_false d1; have h2 := HN0.out; omega)
  have HCF := hid (cfg_ok HRB.out)
  go_enter Tryz.func5, Tryz.ntmps5
  go_wp2_with (first
    | (refine wpl_boxA (vs := ivs c) rfl (.tmp 1) rfl rfl (St.init W) ?_; rintro C w1 s1)
    | (go_at_call 6; have gg := s4; refine speaks_c HF.out s4 ?_; clear gg; rintro w9 s9)
    | (go_at_call 6; have gg := s3; refine speaks_c HF.out s3 ?_; clear gg; rintro w9 s9)
    | (go_at_call 6; refine speaks_c HF.out s1 ?_; rintro w2 s2)
    | (go_at_call 7; refine few20_c s2 (HRD.out.rds _) HRR.out ?_; rintro w3 (_ | _) s3 hb; all_goals (have HFW := hid hb; clear hb; obtain ⟨lC, l0, _⟩ := cfgLd HC.out s3; rw [HN0.out] at l0))
    | (go_at_call 8; refine right_c s3 HC.out ?_; rintro w4 s4; rw [HRB.out]; clear lC l0; obtain ⟨lC, l0, _⟩ := cfgLd HC.out s4; rw [HN0.out] at l0)
    | (go_at_call 9; refine base_c HC.out HCF.out HS.out s4 ?_; rintro A w5 s5'; clear lC l0; have s5 := s5'.pick 1; clear s5'; obtain ⟨lC, _, _⟩ := cfgLd HC.out s5)
    | (go_at_call 11; refine of_c s5 HC.out ?_; rintro w6 s6; clear lC)
    | (go_at_call 12; refine new_c s6 (HDR.out.st s6) (by have := of_decide_eq_false HDD.out; omega) ?_; rintro dp w7 s7)
    | (go_at_call 10; refine mnew_c (r := baseR c self) (s7.perm [2]) HC.out HRB.out HS.out.2 ?_; rintro b w8 s8; have s9 := mnew_a s8))
  · exact HK.out _ s9.below
  have HE0 : Hid (CMil c self (baseR c self) []) := hid ⟨HCF.out.base HS.out, CalmD.new, HotI.nil (by have := HCF.out.n14; omega), (fun _ h => by cases h), rfl⟩
  have sX : St W w8 (OwnS 4 none 0 0 (tkC []) :: row b 0 (millC A.p c dp none 0 0) :: RepA A (baseR c self) :: DiceA dp ds :: row C 0 (ivs c) :: []) := s9
  clear s1 s2 s3 s4 s5 s6 s7 s8 s9
  have hFW := HFW.out (by simp)
  have HFW2 := hid hFW.2
  clear hFW HFW
  go_loopw [75] (fun ii wr => ∃ (i : Nat) (q : RepV) (l1 : List TkV) (D1 : List Int) (a1 : Option Addr) (n1 c1 : Nat), i ≤ n ∧ ii = .int .i64 i ∧ Hid (CMil c self q l1) ∧ St W wr (OwnS 4 a1 n1 c1 (tkC l1) :: row b 0 (millC A.p c dp a1 n1 c1) :: RepA A q :: DiceA dp D1 :: row C 0 (ivs c) :: [])) (fun ii _ => n - (intOf ii).toNat)
  case atStart => exact ⟨0, baseR c self, [], ds, none, 0, 0, Nat.zero_le _, rfl, HE0, sX⟩
  case round =>
    obtain ⟨i, q, l1, D1, a1, n1, c1, hi, rfl, HM, sr⟩ := hrel
    by_cases hlt : i < n
    · have hi2 : (i : Int) < (n : Int) := by omega
      have hbig := HBIG.out
      have rd := HRD.out.st sr
      obtain ⟨g3, o3, rfl⟩ := rd.addr (by omega)
      have hiA : i < l.length := by rw [HLN.out]; exact hlt
      have ci := mactLd rd hiA
      have hx0 := HRR.out _ (List.getElem_mem hiA)
      have hx1 := HFW2.out _ (List.getElem_mem hiA)
      obtain ⟨x, hx⟩ : ∃ x, l[i] = x := ⟨_, rfl⟩
      rw [hx] at ci hx0 hx1
      have HX0 := hid hx0; have HX1 := hid hx1
      clear hx rd hiA hx0 hx1
      have hn14 : n1 ≤ 4000 := by have h1 : l1.length = n1 := tkC_ln (OwnS.rd sr); have h2 := HM.out.hot.len; have h3 := HCF.out.n14; omega
      have HN14 := hid hn14
      clear hn14
      obtain ⟨kd, hkd⟩ : ∃ z, x.kind = z := ⟨_, rfl⟩
      have HKD := hid hkd
      clear hkd
      have LX : Hid (∀ {w' : World} {R' : List HP} {T : Nat}, St W w' (row T 0 x.cells :: R') → ((loadG 3 (.pointer (some ⟨T, 0, none⟩))).run Tryz.prog w' = .ok (.int .i64 kd) w' ∧ (loadG 24 (.pointer (some ⟨T, 2, none⟩))).run Tryz.prog w' = .ok (.slice x.aa x.an x.ac) w' ∧ (loadG 9 (.pointer (some ⟨T, 3, none⟩))).run Tryz.prog w' = .ok (.string x.key) w' ∧
          (loadG 43 (.pointer (some ⟨T, 4, none⟩))).run Tryz.prog w' = .ok (.agg x.e.cells.toArray) w') ∧ (loadG 3 (.pointer (some ⟨T, 1, none⟩))).run Tryz.prog w' = .ok (.int .i64 x.peer) w' ∧ (loadG 50 (.pointer (some ⟨T, 13, none⟩))).run Tryz.prog w' = .ok (.agg x.m.cells.toArray) w') :=
        hid (fun s => by obtain ⟨⟨a0, a1, a2, a3⟩, a4, a5, _, _⟩ := mactL s; rw [HKD.out] at a0; exact ⟨⟨a0, a2, a3, a4⟩, a1, a5⟩)
      go_upto_region 12 with (first
        | (refine wpl_allocA rfl rfl zero_mact sr ?_; rintro T w2 s2)
        | (refine wpl_storeA (vs := x.cells) rfl (.tmp 13) (.tmp 78) (by rfl) agg_mact (by rfl) (by rfl) rfl (mact_one x) s2 rfl ?_; rintro w3 s3))
      obtain ⟨⟨l0, l2', l3, l4⟩, _⟩ := LX.out s3
      clear s2 ci
      go_upto_block 2 with (fail)
      go_cut [14] (fun Lv wx => ∃ (q2 : RepV) (l2 : List TkV) (D2 : List Int) (Ls : List LetV) (KN : List MkV) (TL : List EnV) (k : Nat) (la ka ta a2 : Option Addr) (ln lc kn kc tn tc n2 c2 : Nat), Lv = .slice la ln lc ∧ Hid (CMil c self q2 l2) ∧ Hid (LetOK c self Ls KN TL k ka kn kc ta tn tc) ∧ St W wx (OwnS 13 la ln lc (ltC Ls) :: OwnS 3 ka kn kc (mkC KN) :: OwnS 9 ta tn tc (enC TL) :: OwnS 4 a2 n2 c2 (tkC l2) :: row b 0 (millC A.p c dp a2 n2 c2) :: RepA A q2 :: DiceA dp D2 :: row C 0 (ivs c) :: []))
      case first =>
        by_cases k0 : kd = 0
        · subst k0
          obtain ⟨y, hy⟩ : ∃ y, q.putX x.key ⟨#[118]⟩ = y := ⟨_, rfl⟩
          have HY := hid hy
          clear hy
          go_wp2_with (first
            | (go_at_call 18; refine rput_c (v := ⟨#[118]⟩) HM.out.ok HF.out (St.pick 3 s3) ?_; rintro w6 s6; rw [HY.out])
            | (refine wpl_allocA rfl rfl zero_en s6 ?_; rintro Y w7 s7)
            | (refine wpl_storeA (vs := y.cells) rfl (.tmp 15) (.tmp 92) (by rfl) agg_en (by rfl) (by rfl) rfl (env_one y) s7 rfl ?_; rintro w8 s8; have lY := run_loadG agg_en (b := Y) (o := 0) (vs := y.cells) rfl s8.rowAll)
            | (go_at_call 19; refine heat_c HC.out HN14.out (s8.perm [3, 3]) ?_; rintro a9 n9 c9 w9 hn9 s9; have HN9 := hid hn9; clear hn9))
          go_meet
          case rel => exact ⟨(q.put x.key ⟨#[118]⟩), _, D1, [], [], [], 14, none, none, none, _, 0, 0, 0, 0, 0, 0, _, _, rfl, hid ⟨HM.out.ok.put _ _, RepV.put_calm HM.out.calm _ _, HM.out.hot.heat HCF.out.n14.1 HCF.out.n15.1 y, RepV.put_tabG HM.out.tab _ _, (RepV.put_cfg _ _ _).trans HM.out.cfg⟩, hid LetOK.none, OwnS.none0 (sz := 13) (OwnS.none0 (sz := 3) (OwnS.none0 (sz := 9) (((s9.perm [2, 3]).dropN 2))))⟩
        · by_cases k1 : kd = 1
          · subst k1
            go_wp2_with (first
              | (go_at_call 23; refine enOf_c (e := x.e) s3 ?_; rintro w6 s6)
              | (go_at_call 19; refine heat_c HC.out HN14.out (s6.perm [1, 1]) ?_; rintro a9 n9 c9 w9 hn9 s9; have HN9 := hid hn9; clear hn9))
            go_meet
            case rel => exact ⟨q, _, D1, [], [], [], 14, none, none, none, _, 0, 0, 0, 0, 0, 0, _, _, rfl, hid ⟨HM.out.ok, HM.out.calm, HM.out.hot.heat HCF.out.n14.1 HCF.out.n15.1 x.e, HM.out.tab, HM.out.cfg⟩, hid LetOK.none, OwnS.none0 (sz := 13) (OwnS.none0 (sz := 3) (OwnS.none0 (sz := 9) (((s9.perm [2]).drop))))⟩
          · by_cases k2 : kd = 2
            · subst k2
              obtain ⟨nb, hnb⟩ : ∃ z, nodeB (c.getD 0 0) q.site x.peer = z := ⟨_, rfl⟩
              have HNB := hid hnb; clear hnb
              clear l0 l2' l3 l4 k0 k1
              have l0 := (LX.out s3).1.1
              go_upto_region 21 with (fail)
              try simp only [Act.put, List.setIfInBounds_toArray, List.set_cons_succ, List.set_cons_zero]
              clear l0
              cases nb with
              | false =>
                have u := s3.drew
                have gA := (LX.out u).2
                go_region_held3 (fun w' => (loadG 3 (.pointer (some ⟨T, 1, none⟩))).run Tryz.prog w' = .ok (.int .i64 x.peer) w' ∧ (loadG 50 (.pointer (some ⟨T, 13, none⟩))).run Tryz.prog w' = .ok (.agg x.m.cells.toArray) w')
                  (first
                    | with_reducible exact gC
                    | with_reducible exact gB
                    | with_reducible exact gA)
                  (first
                    | (go_at_call 14; refine msgOf_c u (HX0.out.2.2.1.rds _) (by have := HX1.out.2.2.1; omega) (HX0.out.2.2.2.rds _) (by have := HX1.out.2.2.2; omega) ?_; rintro ma mq ea eq w6 s6; have gB := (LX.out (St.pick 2 s6)).2)
                    | (go_at_call 13; refine take_no HC.out HNB.out (s6.perm [4, 4]) ?_; rintro w8 s8; have gC := (LX.out (St.pick 4 s8)).2))
                all_goals
                  go_wp2_with fail
                  go_meet
                  case rel => exact ⟨q, l1, D1, [], [], [], 14, none, none, none, _, 0, 0, 0, 0, 0, 0, _, _, rfl, hid HM.out, hid LetOK.none, OwnS.none0 (sz := 13) (OwnS.none0 (sz := 3) (OwnS.none0 (sz := 9) (((s8.perm [2, 2, 2]).dropN 3).perm [2])))⟩
              | true =>
              by_cases hg : goodM x.m x.ks x.es = true ∧ (x.m.kind = 14 ∨ x.m.kind = 15)
              · have HGM := hid hg.1
                rcases hg.2 with h14 | h15
                · have HK1 : Hid (x.m.kind = 14) := hid h14
                  have HLET : Hid (∀ (F : MilV) (ka : Option Addr) (kn kc : Nat) (ta : Option Addr) (tn tc : Nat), F = takeM c q l1 x.ks x.es → F.known.length = kn → (backL c F x.es).length = tn → LetOK c self [⟨x.peer, echo15 ka kn kc ta tn tc⟩] F.known (backL c F x.es) 15 ka kn kc ta tn tc) := hid (by
                    intro F ka kn kc ta tn tc hF hkn htn
                    have hCM := takeM_c HM.out HCF.out x.ks x.es
                    rw [← hF] at hCM
                    have hpe := nodeB_iff.1 HNB.out
                    rw [HM.out.site] at hpe
                    have h8 := goodM_en HGM.out
                    have hlen := (mmL_len (c.getD 14 0) x.es ⟨q, bumpsL (c.getD 15 0) l1 x.ks, [], []⟩).2
                    have hkn8 : F.known.length ≤ x.es.length := by rw [hF]; simpa [takeM] using hlen
                    have hback : ((backL c F x.es).length : Int) ≤ 8 ∧ ∀ e ∈ backL c F x.es, checkE e = 0 := by
                      unfold backL
                      split
                      · exact ⟨Int.le_trans (toldL_len (by have := HCF.out.n17; omega)) HCF.out.n17.2, toldL_good hCM.tab hCM.ok⟩
                      · exact ⟨by simp, fun _ h => by cases h⟩
                    refine ⟨by simp, ?_, .inr rfl, fun _ => ⟨?_, ?_, ?_⟩, ?_, hback.2⟩
                    · intro y hy
                      have hy2 : y = ⟨x.peer, echo15 ka kn kc ta tn tc⟩ := by simpa using hy
                      subst hy2
                      exact ⟨rfl, hpe.1, hpe.2.1, hpe.2.2⟩
                    · show (kn : Int) ≤ 8; omega
                    · show (0 : Int) ≤ (tn : Int); omega
                    · have := hback.1; omega
                    · rw [hF]; exact mmL_known x.es (fun _ h => by cases h) (goodM_es HGM.out))
                  clear hg h14
                  have u := s3.drew
                  have gA := (LX.out u).2
                  go_region_held3 (fun w' => (loadG 3 (.pointer (some ⟨T, 1, none⟩))).run Tryz.prog w' = .ok (.int .i64 x.peer) w' ∧ (loadG 50 (.pointer (some ⟨T, 13, none⟩))).run Tryz.prog w' = .ok (.agg x.m.cells.toArray) w')
                    (first
                      | with_reducible exact gC
                      | with_reducible exact gB
                      | with_reducible exact gA)
                    (first
                      | (go_at_call 14; refine msgOf_c u (HX0.out.2.2.1.rds _) (by have := HX1.out.2.2.1; omega) (HX0.out.2.2.2.rds _) (by have := HX1.out.2.2.2; omega) ?_; rintro ma mq ea eq w6 s6; have gB := (LX.out (St.pick 2 s6)).2)
                      | (go_at_call 13; refine take_ok (m := ((x.m.withM ma x.m.mn mq).withE ea x.m.en eq)) (ks := x.ks) (es := x.es) HC.out HNB.out ((goodM_with x.ks x.es).trans HGM.out) (.inl HK1.out) ⟨HCF.out.n14.1, by have := HCF.out.n14; omega⟩ ⟨HCF.out.n15.1, by have := HCF.out.n15; omega⟩ HM.out.ok HM.out.calm HM.out.hot (HX0.out.2.1.rds _) (by have := HX1.out.2.1; show x.m.pn ≤ 4096; omega) OwnS.rds (by have := HX1.out.2.2.1; show x.m.mn ≤ 4096; omega) OwnS.rds.cons (by have := HX1.out.2.2.2; show x.m.en ≤ 4096; omega) (s6.perm [3, 3, 3, 0, 0]) (fun h => absurd (h.symm.trans HK1.out) (by decide)) ?_; rintro - F na nv nc ka kn kc ta tn tc a9 n9 c9 B w8 hF s8; have HFF := hid hF; clear hF; have gC := (LX.out (St.pick 9 s8)).2))
                  all_goals
                    go_wp2_with fail
                    go_meet
                    case rel => exact ⟨F.r, F.l, D1, [⟨x.peer, echo15 ka kn kc ta tn tc⟩], F.known, backL c F x.es, 15, _, ka, ta, a9, 1, 1, kn, kc, tn, tc, n9, c9, rfl, hid (by rw [HFF.out]; exact takeM_c HM.out HCF.out x.ks x.es), hid (HLET.out F ka kn kc ta tn tc HFF.out (mkC_ln (OwnS.rd (St.pick 2 s8))) (enC_ln (OwnS.rd (St.pick 3 s8)))), ownLet (((s8.perm [1, 6, 6, 6]).dropN 4))⟩
                · have HK1 : Hid (x.m.kind = 15) := hid h15
                  clear hg h15
                  have u := s3.drew
                  have gA := (LX.out u).2
                  go_region_held3 (fun w' => (loadG 3 (.pointer (some ⟨T, 1, none⟩))).run Tryz.prog w' = .ok (.int .i64 x.peer) w' ∧ (loadG 50 (.pointer (some ⟨T, 13, none⟩))).run Tryz.prog w' = .ok (.agg x.m.cells.toArray) w')
                    (first
                      | with_reducible exact gC
                      | with_reducible exact gB
                      | with_reducible exact gA)
                    (first
                      | (go_at_call 14; refine msgOf_c u (HX0.out.2.2.1.rds _) (by have := HX1.out.2.2.1; omega) (HX0.out.2.2.2.rds _) (by have := HX1.out.2.2.2; omega) ?_; rintro ma mq ea eq w6 s6; have gB := (LX.out (St.pick 2 s6)).2)
                      | (go_at_call 13; refine take_ok (m := ((x.m.withM ma x.m.mn mq).withE ea x.m.en eq)) (ks := x.ks) (es := x.es) HC.out HNB.out ((goodM_with x.ks x.es).trans HGM.out) (.inr HK1.out) ⟨HCF.out.n14.1, by have := HCF.out.n14; omega⟩ ⟨HCF.out.n15.1, by have := HCF.out.n15; omega⟩ HM.out.ok HM.out.calm HM.out.hot (HX0.out.2.1.rds _) (by have := HX1.out.2.1; show x.m.pn ≤ 4096; omega) OwnS.rds (by have := HX1.out.2.2.1; show x.m.mn ≤ 4096; omega) OwnS.rds.cons (by have := HX1.out.2.2.2; show x.m.en ≤ 4096; omega) (s6.perm [3, 3, 3, 0, 0]) ?_ (fun h => absurd (h.symm.trans HK1.out) (by decide)); rintro - F na nv nc a9 n9 c9 w8 hF s8; have HFF := hid hF; clear hF; have gC := (LX.out (St.pick 6 s8)).2))
                  all_goals
                    go_wp2_with fail
                    go_meet
                    case rel => exact ⟨F.r, F.l, D1, [], [], [], 14, none, none, none, _, 0, 0, 0, 0, 0, 0, _, _, rfl, hid (by rw [HFF.out]; exact takeM_c HM.out HCF.out x.ks x.es), hid LetOK.none, OwnS.none0 (sz := 13) (OwnS.none0 (sz := 3) (OwnS.none0 (sz := 9) (((s8.perm [0, 3, 3, 3]).dropN 4))))⟩
              · have HBAD : Hid (goodM x.m x.ks x.es = true → x.m.kind ≠ 14 ∧ x.m.kind ≠ 15) := hid (fun h => ⟨fun e => hg ⟨h, .inl e⟩, fun e => hg ⟨h, .inr e⟩⟩)
                clear hg
                have u := s3.drew
                have gA := (LX.out u).2
                go_region_held3 (fun w' => (loadG 3 (.pointer (some ⟨T, 1, none⟩))).run Tryz.prog w' = .ok (.int .i64 x.peer) w' ∧ (loadG 50 (.pointer (some ⟨T, 13, none⟩))).run Tryz.prog w' = .ok (.agg x.m.cells.toArray) w')
                  (first
                    | with_reducible exact gC
                    | with_reducible exact gB
                    | with_reducible exact gA)
                  (first
                    | (go_at_call 14; refine msgOf_c u (HX0.out.2.2.1.rds _) (by have := HX1.out.2.2.1; omega) (HX0.out.2.2.2.rds _) (by have := HX1.out.2.2.2; omega) ?_; rintro ma mq ea eq w6 s6; have gB := (LX.out (St.pick 2 s6)).2)
                    | (go_at_call 13; refine take_bad (m := ((x.m.withM ma x.m.mn mq).withE ea x.m.en eq)) (ks := x.ks) (es := x.es) HC.out HNB.out (fun h => HBAD.out ((goodM_with x.ks x.es).symm.trans h)) (HX0.out.2.1.rds _) (by have := HX1.out.2.1; show x.m.pn ≤ 4096; omega) OwnS.rds (by have := HX1.out.2.2.1; show x.m.mn ≤ 4096; omega) OwnS.rds.cons (by have := HX1.out.2.2.2; show x.m.en ≤ 4096; omega) (s6.perm [4, 4, 0, 0]) ?_; rintro w8 s8; have gC := (LX.out (St.pick 4 s8)).2))
                all_goals
                  go_wp2_with fail
                  go_meet
                  case rel => exact ⟨q, l1, D1, [], [], [], 14, none, none, none, _, 0, 0, 0, 0, 0, 0, _, _, rfl, hid HM.out, hid LetOK.none, OwnS.none0 (sz := 13) (OwnS.none0 (sz := 3) (OwnS.none0 (sz := 9) (((s8.perm [2, 2, 2]).dropN 3).perm [2])))⟩
            · have e0 : (kd == 0) = false := by simpa using k0
              have e1 : (kd == 1) = false := by simpa using k1
              have e2 : (kd == 2) = false := by simpa using k2
              clear k0 k1 k2
              have HFR : Hid (∀ t ∈ l1.filter (freshB q), freshB q t = true) := hid (fun t ht => (List.mem_filter.1 ht).2)
              obtain ⟨lf, hlf⟩ : ∃ z, l1.filter (freshB q) = z := ⟨_, rfl⟩
              have HLF := hid hlf
              have HM2 : Hid (CMil c self q lf) := hid ⟨HM.out.ok, HM.out.calm, by rw [← hlf]; exact HM.out.hot.keep _, HM.out.tab, HM.out.cfg⟩
              rw [hlf] at HFR
              clear hlf
              go_wp2_with (go_at_call 20; refine tick_c HC.out (by have := HCF.out.n14; omega) HM.out.ok HM.out.hot (HX0.out.1.rds _) (by have := HX1.out.1; omega) (s3.perm [1, 1, 1, 1]) ?_ ?_; (rintro - n9 w9 s9; rw [HLF.out] at s9); rotate_left; (rintro hne hzs n9 ta tn tc B w9 s9; rw [HLF.out] at s9 hne; have HNE := hid hne; have HZS := hid hzs; clear hne hzs); rotate_left)
              · go_meet
                case rel => exact ⟨q, lf, D1, [], [], [], 14, none, none, none, _, 0, 0, 0, 0, 0, 0, _, _, rfl, hid HM2.out, hid LetOK.none, OwnS.none0 (sz := 13) (OwnS.none0 (sz := 3) (OwnS.none0 (sz := 9) (((s9.perm [4]).drop))))⟩
              · go_meet
                case rel => exact ⟨q, lf, _, [⟨pickV D1 (x.ps.filter (nodeB (c.getD 0 0) q.site)), rum14 ta tn tc⟩], [], _, 14, _, none, ta, a1, 1, 1, 0, 0, tn, tc, n9, c1, rfl, HM2, hid (by
                  have htn : (toldL q (c.getD 17 0) [] lf).length = tn := enC_ln (OwnS.rd (St.pick 1 s9))
                  have hpe := nodeB_iff.1 (List.mem_filter.1 (pickV_mem (D := D1) HZS.out)).2
                  have h17 := HCF.out.n17
                  have hle := toldL_len (r := q) (ks := []) (l := lf) (ch := c.getD 17 0) (by omega)
                  have hpos := toldL_pos (r := q) (ch := c.getD 17 0) h17.1 HNE.out HFR.out
                  refine ⟨by simp, ?_, .inl rfl, fun _ => ⟨by show (0 : Int) ≤ 0; omega, by show (1 : Int) ≤ (tn : Int); omega, by omega⟩, (fun _ h => by cases h), toldL_good HM.out.tab HM.out.ok⟩
                  intro y hy
                  have hy2 : y = ⟨pickV D1 (x.ps.filter (nodeB (c.getD 0 0) q.site)), rum14 ta tn tc⟩ := by simpa using hy
                  subst hy2
                  exact ⟨rfl, hpe.1, hpe.2.1, by rw [← HM.out.site]; exact hpe.2.2⟩), ownLet (OwnS.none0 (sz := 3) ((s9.perm [6]).drop) |>.perm [1])⟩
      case rest =>
      obtain ⟨q2, l2, D2, Ls, KN, TL, k, la, ka, ta, a2, ln, lc, kn, kc, tn, tc, n2, c2, rfl, HM2, HLK, s4⟩ := hcut
      have hn24 : n2 ≤ 4096 := by have h1 : l2.length = n2 := tkC_ln (OwnS.rd (St.pick 3 s4)); have h2 := HM2.out.hot.len; have h3 := HCF.out.n14; omega
      have HN24 := hid hn24
      clear hn24
      go_upto_region 23 with (go_at_call 22; refine hot_c HC.out HN24.out (s4.perm [3, 3]) ?_; rintro ha hcp w5 s5)
      have hln : Ls.length = ln := by have h := (OwnS.rd (St.pick 3 s5)).len; rw [ltC_sz] at h; omega
      have hl2 : l2.length = n2 := tkC_ln (OwnS.rd (St.pick 1 s5))
      have HLNN := hid hln; have HL2 := hid hl2
      obtain ⟨h14, hh14⟩ : ∃ z, c.getD 14 0 = z := ⟨_, rfl⟩
      have d5 : decide (h14 < (n2 : Int)) = false := decide_eq_false (by have := HM2.out.hot.len; omega)
      have d6 : decide (1 < (ln : Int)) = false := decide_eq_false (by have := HLK.out.one; omega)
      have l14 : (loadG 3 (.pointer (some ⟨C, 14, none⟩))).run Tryz.prog w5 = .ok (.int .i64 h14) w5 := by rw [← hh14]; exact run_ldP (by kernel_rfl) (cfg_at (St.pick 8 s5) (i := 14) (by rw [HC.out]; decide))
      have hn2big : n2 ≤ 4096 := HN24.out
      have hnd : ((l2.map (fun t : TkV => t.m)).map (fun m : MkV => m.key)).Nodup := by rw [List.map_map]; exact HM2.out.hot.keys
      obtain ⟨ms, hms⟩ : ∃ ms, l2.map (fun t : TkV => t.m) = ms := ⟨_, rfl⟩
      have HLM : Hid (ms.length = n2) := hid (by rw [← hms, List.length_map, HL2.out])
      rw [hms] at s5 hnd
      have HND := hid hnd
      clear hms hnd
      clear hln hl2 hh14
      go_wp2_with fail
      go_loopw [131] (fun ii wr => ∃ j : Nat, j ≤ n2 ∧ ii = .int .i64 j ∧ St W wr (OwnS 3 ha n2 hcp (mkC ms) :: OwnS 4 a2 n2 c2 (tkC l2) :: row b 0 (millC A.p c dp a2 n2 c2) :: OwnS 13 la ln lc (ltC Ls) :: OwnS 3 ka kn kc (mkC KN) :: OwnS 9 ta tn tc (enC TL) :: RepA A q2 :: DiceA dp D2 :: row C 0 (ivs c) :: [])) (fun ii _ => n2 - (intOf ii).toNat)
      case atStart => exact ⟨0, Nat.zero_le _, rfl, s5⟩
      case round =>
        clear l14 d5
        obtain ⟨j, hj, rfl, sw⟩ := hrel
        by_cases hlt2 : j < n2
        · have hj2 : (j : Int) < (n2 : Int) := by omega
          have hjL : j < ms.length := by rw [HLM.out]; exact hlt2
          have rdm := OwnS.rd sw
          obtain ⟨g4, o4, rfl⟩ := rdm.addr (by omega)
          have lj := run_loadG agg54 (b := g4) (o := o4 + j * 3) (vs := ms[j].cells) rfl (fun _ _ hu => rdm.at2 (mkC_get hjL hu))
          have HKEY : Hid (∀ i, i < j → (ms[i]?.map (fun m : MkV => m.key.toList)) ≠ some (ms[j].key.toList)) := hid (by
            intro i hij h
            have hil : i < ms.length := by omega
            rw [List.getElem?_eq_getElem hil, Option.map_some, Option.some.injEq] at h
            have h3 : ms[i].key = ms[j].key := kb_inj (by rw [← Lib.toList_data, ← Lib.toList_data]; exact h)
            have h4 : (ms.map (fun m : MkV => m.key))[i]'(by rw [List.length_map]; exact hil) = (ms.map (fun m : MkV => m.key))[j]'(by rw [List.length_map]; exact hjL) := by
              rw [List.getElem_map, List.getElem_map]; exact h3
            have := (List.getElem_inj HND.out).1 h4
            omega)
          obtain ⟨v, hv⟩ : ∃ v, ms[j] = v := ⟨_, rfl⟩
          rw [hv] at lj HKEY
          have hsl := run_slice_to (P := Tryz.prog) Tryz.elem60 (some ⟨g4, o4, none⟩) n2 hcp j (by have := rdm.le; omega)
          have HRM := hid rdm
          clear hv rdm hjL
          go_upto_region 29 with (first
            | (refine wpl_allocA (vs := [.int .i64 0, .int .i64 0, .string ByteArray.empty]) rfl rfl (fun _ => by kernel_rfl) sw ?_; rintro X w11 s11)
            | (refine wpl_storeA (vs := v.cells) rfl (.tmp 19) (.tmp 135) (by rfl) agg54 (by rfl) (by rfl) rfl (mk_one v) s11 rfl ?_; rintro w12 s12))
          go_loopw [140] (fun ii wr => ∃ m : Nat, m ≤ j ∧ ii = .int .i64 m ∧ St W wr (row X 0 v.cells :: OwnS 3 (some ⟨g4, o4, none⟩) n2 hcp (mkC ms) :: OwnS 4 a2 n2 c2 (tkC l2) :: row b 0 (millC A.p c dp a2 n2 c2) :: OwnS 13 la ln lc (ltC Ls) :: OwnS 3 ka kn kc (mkC KN) :: OwnS 9 ta tn tc (enC TL) :: RepA A q2 :: DiceA dp D2 :: row C 0 (ivs c) :: [])) (fun ii _ => j - (intOf ii).toNat)
          case atStart => exact ⟨0, Nat.zero_le _, rfl, s12⟩
          case round =>
            clear s11 s12 lj hsl
            obtain ⟨m, hm, rfl, sv⟩ := hrel
            by_cases hlt3 : m < j
            · have hm2 : (m : Int) < (j : Int) := by omega
              have hmL : m < ms.length := by rw [HLM.out]; omega
              have rdm := OwnS.rd (St.pick 1 sv)
              have lm := run_loadG agg54 (b := g4) (o := o4 + m * 3) (vs := ms[m].cells) rfl (fun _ _ hu => rdm.at2 (mkC_get hmL hu))
              have hk := HKEY.out m hlt3
              rw [List.getElem?_eq_getElem hmL, Option.map_some] at hk
              obtain ⟨u, hu⟩ : ∃ u, ms[m] = u := ⟨_, rfl⟩
              rw [hu] at lm hk
              have e9 : (u.key.toList == v.key.toList) = false := by rw [beq_eq_false_iff_ne]; exact fun h => hk (by rw [h])
              clear hu hk rdm hmL
              have KY : Hid (∀ {w' : World} {R' : List HP} {Z : Nat} {z : MkV}, St W w' (row Z 0 z.cells :: R') → (loadG 9 (.pointer (some ⟨Z, 2, none⟩))).run Tryz.prog w' = .ok (.string z.key) w') := hid (fun s => run_ldP (by kernel_rfl) (by have := s.rowCell (i := 2) rfl; rw [Nat.zero_add] at this; exact this))
              go_wp2_with (first
                | (refine wpl_allocA (vs := [.int .i64 0, .int .i64 0, .string ByteArray.empty]) rfl rfl (fun _ => by kernel_rfl) sv ?_; rintro Y w13 s13)
                | (refine wpl_storeA (vs := u.cells) rfl (.tmp 21) (.tmp 143) (by rfl) agg54 (by rfl) (by rfl) rfl (mk_one u) s13 rfl ?_; rintro w14 s14; have k1 := KY.out s14; have k2 := KY.out (St.pick 1 s14)))
              go_roundw
              case rel => exact ⟨m + 1, by omega, by go_num, s14.drop⟩
              case measure => simp [intOf]; omega
            · have hme : m = j := by omega
              subst hme
              have lX := run_loadG agg54 (b := X) (o := 0) (vs := v.cells) rfl sv.rowAll
              obtain ⟨ct, hct⟩ : ∃ z, countL l2 v = z := ⟨_, rfl⟩
              have hin := countL_in HM2.out.hot HCF.out.n15.1 v
              rw [hct] at hin
              have HCT := hid hct
              obtain ⟨h15, hh15⟩ : ∃ z, c.getD 15 0 = z := ⟨_, rfl⟩
              rw [hh15] at hin
              have HH15 := hid hh15
              have f1 : decide (ct < 0) = false := decide_eq_false (by omega)
              have f2 : decide (h15 ≤ ct) = false := decide_eq_false (by omega)
              clear hct hin hh15
              go_wp2_with (go_at_call 24; refine count_c HC.out (sv.perm [2, 2]) ?_; rintro w15 s15; rw [HCT.out]; have l15 : (loadG 3 (.pointer (some ⟨C, 15, none⟩))).run Tryz.prog w15 = .ok (.int .i64 h15) w15 := (by rw [← HH15.out]; exact run_ldP (by kernel_rfl) (cfg_at (St.pick 9 s15) (i := 15) (by rw [HC.out]; decide))))
              go_roundw
              case rel => exact ⟨m + 1, by omega, by go_num, ((s15.perm [2]).drop).perm [2]⟩
              case measure => simp [intOf]; omega
        · have hje : j = n2 := by omega
          subst hje
          go_wp2_with fail
          go_loopw [164] (fun ii wr => ∃ m : Nat, m ≤ ln ∧ ii = .int .i64 m ∧ St W wr (OwnS 3 ka kn kc (mkC KN) :: OwnS 9 ta tn tc (enC TL) :: OwnS 13 la ln lc (ltC Ls) :: OwnS 4 a2 j c2 (tkC l2) :: row b 0 (millC A.p c dp a2 j c2) :: RepA A q2 :: DiceA dp D2 :: row C 0 (ivs c) :: [])) (fun ii _ => ln - (intOf ii).toNat)
          case atStart => exact ⟨0, Nat.zero_le _, rfl, (sw.drop).perm [3, 3, 2]⟩
          case round =>
            obtain ⟨m, hm, rfl, sv⟩ := hrel
            by_cases hlt3 : m < ln
            · have hm2 : (m : Int) < (ln : Int) := by omega
              have hln1 : ln ≤ 1 := by have := HLK.out.one; have := HLNN.out; omega
              have hmL : m < Ls.length := by rw [HLNN.out]; exact hlt3
              have rdl := OwnS.rd (St.pick 2 sv)
              obtain ⟨g5, o5, rfl⟩ := rdl.addr (by omega)
              have lm := run_loadG agg_let (b := g5) (o := o5 + m * 13) (vs := Ls[m].cells) rfl (fun _ _ hu => rdl.at2 (ltC_get hmL hu))
              have hz := HLK.out.msg _ (List.getElem_mem hmL)
              have hgd := HLK.out.good (by intro h; rw [h] at hmL; simp at hmL)
              obtain ⟨⟨tx, mg⟩, hu⟩ : ∃ u, Ls[m] = u := ⟨_, rfl⟩
              rw [hu] at lm hz
              obtain ⟨z1, z2, z3, z4⟩ := hz
              dsimp only at z1 z2 z3 z4
              subst z1
              have HGD := hid hgd
              have hn0 := HN0.out
              have f1 : decide (tx < 0) = false := decide_eq_false (by omega)
              have f2 : decide (nn ≤ tx) = false := decide_eq_false (by omega)
              have f3 : (tx == self) = false := by simp [z4]
              have LT : Hid (∀ {w' : World} {R' : List HP} {Z : Nat}, St W w' (row Z 0 (LetV.cells ⟨tx, ltrM k ka kn kc ta tn tc⟩) :: R') → (loadG 3 (.pointer (some ⟨Z, 0, none⟩))).run Tryz.prog w' = .ok (.int .i64 tx) w' ∧ (loadG 62 (.pointer (some ⟨Z, 1, none⟩))).run Tryz.prog w' = .ok (.agg (ltrM k ka kn kc ta tn tc).cells.toArray) w') :=
                hid (fun s => ⟨run_ldP (by kernel_rfl) (by have := s.rowCell (i := 0) (v := .int .i64 tx) rfl; rwa [Nat.zero_add] at this), run_loadG (o := 0 + 1) agg58 (vs := (ltrM k ka kn kc ta tn tc).cells) rfl (St.rowPart s 1 (xs := (ltrM k ka kn kc ta tn tc).cells) (ys := []) rfl)⟩)
              have hk8 : kn ≤ 8 := by
                have h := hgd.1
                unfold hi7 at h
                split at h <;> omega
              have HK8 := hid hk8
              clear hu hgd rdl hmL z2 z3 z4 hn0 hk8
              go_wp2_with (first
                | (refine wpl_allocA rfl rfl zero_let sv ?_; rintro X w13 s13)
                | (refine wpl_storeA (vs := LetV.cells ⟨tx, ltrM k ka kn kc ta tn tc⟩) rfl (.tmp 24) (.tmp 167) (by rfl) agg_let (by rfl) (by rfl) rfl (lt_one _) s13 rfl ?_; rintro w14 s14; obtain ⟨t0, t1⟩ := LT.out s14
                   have l0 : (loadG 3 (.pointer (some ⟨C, 0, none⟩))).run Tryz.prog w14 = .ok (.int .i64 nn) w14 := by rw [← HN0.out]; exact run_ldP (by kernel_rfl) (cfg_at (St.pick 8 s14) (i := 0) (by rw [HC.out]; decide)))
                | (go_at_call 26; refine msgTo_c (m := ltrM k ka kn kc ta tn tc) (ks := KN) (es := TL) s14 OwnS.rds.cons (by have := HK8.out; show kn ≤ 1000; omega) OwnS.rds.cons.cons (by have := HGD.out.2.2; show tn ≤ 1000; omega) ?_; rintro ma mq ea eq w15 s15)
                | (go_at_call 25; refine rgoodR_c (k := k) (ma := ma) (mn := kn) (mq := mq) (ea := ea) (en := tn) (eq := eq) (ks := KN) (es := TL) HLK.out.kk HGD.out.1 HGD.out.2 HLK.out.marks HLK.out.ents OwnS.rds OwnS.rds.cons s15 ?_; rintro w16 s16))
              go_roundw
              case rel => exact ⟨m + 1, by omega, by go_num, s16.dropN 3⟩
              case measure => simp [intOf]; omega
            · have hme : m = ln := by omega
              subst hme
              go_wp2_with fail
              go_roundw
              case rel => exact ⟨i + 1, q2, l2, D2, a2, j, c2, by omega, by go_num, HM2, sv.dropN 3⟩
              case measure => simp [intOf]; omega
    · have hie : i = n := by omega
      subst hie
      go_wp2_with fail
      exact HK.out _ sr.below
end
end Go.Proofs.YtojfjbbggpfijaaGreatDoor
