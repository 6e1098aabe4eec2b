/- The law RumorEchoes: the walk. Printed by mkEchW.py. -/
import Derived.Test.YtojfjbbggpfijaaGreatDoorBasA
import Derived.Test.YtojfjbbggpfijaaGreatDoorRumW
import Derived.Test.YtojfjbbggpfijaaGreatDoorActs
import Derived.Test.YtojfjbbggpfijaaGreatDoorMils
import Derived.Test.YtojfjbbggpfijaaGreatDoorDices
import Derived.Test.YtojfjbbggpfijaaGreatDoorRepsM
import Derived.Test.YtojfjbbggpfijaaGreatDoorRumsB
namespace Go.Proofs.YtojfjbbggpfijaaGreatDoor
open Go.RowKit Go.Qd RepV

theorem cfgLd {W w : World} {R : List HP} {C : Nat} {c : List Int} (hc : c.length = 20) (s : St W w (row C 0 (ivs c) :: R)) :
    (loadG 23 (.pointer (some ⟨C, 0, none⟩))).run Tryz.prog w = .ok (.agg (ivs c).toArray) w ∧ (loadG 3 (.pointer (some ⟨C, 0, none⟩))).run Tryz.prog w = .ok (.int .i64 (c.getD 0 0)) w ∧ (loadG 3 (.pointer (some ⟨C, 3, none⟩))).run Tryz.prog w = .ok (.int .i64 (c.getD 3 0)) w :=
  ⟨run_loadG agg23 (ivs_len20 hc) s.rowAll, run_ldP (by kernel_rfl) (cfg_at s (i := 0) (by rw [hc]; decide)), run_ldP (by kernel_rfl) (cfg_at s (i := 3) (by rw [hc]; decide))⟩
theorem mnew_a {W w : World} {R : List HP} {A : RAd} {c : List Int} {b dp : Nat} {r : RepV} (st : St W w (row b 0 (millC A.p c dp none 0 0) :: RepA A r :: R)) :
    St W w (OwnS 4 none 0 0 (tkC []) :: row b 0 (millC A.p c dp none 0 0) :: RepA A r :: R) := OwnS.none0 st
/-- A letter in memory. -/
theorem let_ldR {W w : World} {R : List HP} {B : Nat} {x : LetV} (s : St W w (row B 0 x.cells :: R)) : (loadG 3 (.pointer (some ⟨B, 0, none⟩))).run Tryz.prog w = .ok (.int .i64 x.to) w ∧ (loadG 3 (.pointer (some ⟨B, 1, none⟩))).run Tryz.prog w = .ok (.int .i64 x.m.kind) w ∧
    (loadG 60 (.pointer (some ⟨B, 9 + 2, none⟩))).run Tryz.prog w = .ok (.slice x.m.ma x.m.mn x.m.mq) w := by
  have f : ∀ i v, x.cells[i]? = some v → w.cell? ⟨B, i, none⟩ = some v := fun i v hv => by have := s.rowCell hv; rwa [Nat.zero_add] at this
  exact ⟨run_ldP (by kernel_rfl) (f 0 _ rfl), run_ldP (by kernel_rfl) (f 1 _ rfl), run_ldP (by kernel_rfl) (f 11 _ rfl)⟩
/-- What holds of a mill between the acts. -/
structure EMil (c : List Int) (sf : Int) (q : RepV) (l : List TkV) : Prop where
  ok : RepOK q
  calm : CalmD q.d
  hot : HotI (c.getD 14 0) (c.getD 15 0) l
  nox : NoX q
  cfg : q.cfgV = (baseR c sf).cfgV
section
attribute [local go_sem ↓] execOp_ldAny
variable {W : World} {post : Ending → World → Prop}
set_option maxRecDepth 100000 in
set_option maxHeartbeats 32000000 in
theorem rumorEchoes_c {c : List Int} {self : Int} {ad a : Option Addr} {nd cd n cp : Nat} {ds : List Int} {l : List MAct} (hc : c.length = 20) (hf : FirstW W) (hd : RdS W 1 ad nd cd (ivs ds)) (rd : RdS W 25 a n cp (mactC l)) (hr : ∀ x ∈ l, x.reads W)
    (K : ∀ W2, Below W.heap.size W W2 → post (.returned (.bool true)) W2) :
    Calls Tryz.prog 3 #[.int .i64 self, .agg (ivs c).toArray, .slice ad nd cd, .slice a n cp] W post := by
  have HK := hid K; clear K
  have HC := hid hc; have HF := hid hf; have HDR := hid hd; have HRD := hid rd; have HRR := hid hr
  have HLN : Hid (l.length = n) := hid (mactC_ln rd)
  have HBIG := hid rd.big
  obtain ⟨nn, hnn⟩ : ∃ z, c.getD 0 0 = z := ⟨_, rfl⟩
  obtain ⟨t1, ht1⟩ : ∃ z, c.getD 3 0 = z := ⟨_, rfl⟩
  have HN0 := hid hnn; have HT1 := hid ht1
  clear hc hf hd rd hr hnn ht1
  cases hdd : decide (100 < (nd : Int)) with
  | true =>
    go_enter Tryz.func3, Tryz.ntmps3
    go_wp2_with (first
      | (refine wpl_boxA (vs := ivs c) rfl (.tmp 1) rfl rfl (St.init W) ?_; rintro C w1 s1)
      | (go_at_call 6; have gg := s4; refine speaks_c HF.out s4 ?_; clear gg; rintro w9 s9)
      | (go_at_call 6; have gg := s3; refine speaks_c HF.out s3 ?_; clear gg; rintro w9 s9)
      | (go_at_call 6; refine speaks_c HF.out s1 ?_; rintro w2 s2)
      | (go_at_call 7; refine few20_c s2 (HRD.out.rds _) HRR.out ?_; rintro w3 (_ | _) s3 hb; all_goals (have HFW := hid hb; clear hb; obtain ⟨lC, l0, l3⟩ := cfgLd HC.out s3; rw [HN0.out] at l0; rw [HT1.out] at l3))
      | (go_at_call 8; refine right_c s3 HC.out ?_; rintro w4 s4; rw [HRB.out]; clear lC l0 l3; obtain ⟨lC, l0, l3⟩ := cfgLd HC.out s4; rw [HN0.out] at l0; rw [HT1.out] at l3))
    all_goals exact HK.out _ s9.below
  | false =>
  have HDD := hid hdd
  obtain ⟨rb, hrb⟩ : ∃ b, rightB c = b := ⟨_, rfl⟩
  have HRB := hid hrb; clear hrb
  cases rb with
  | false =>
    go_enter Tryz.func3, Tryz.ntmps3
    go_wp2_with (first
      | (refine wpl_boxA (vs := ivs c) rfl (.tmp 1) rfl rfl (St.init W) ?_; rintro C w1 s1)
      | (go_at_call 6; have gg := s4; refine speaks_c HF.out s4 ?_; clear gg; rintro w9 s9)
      | (go_at_call 6; have gg := s3; refine speaks_c HF.out s3 ?_; clear gg; rintro w9 s9)
      | (go_at_call 6; refine speaks_c HF.out s1 ?_; rintro w2 s2)
      | (go_at_call 7; refine few20_c s2 (HRD.out.rds _) HRR.out ?_; rintro w3 (_ | _) s3 hb; all_goals (have HFW := hid hb; clear hb; obtain ⟨lC, l0, l3⟩ := cfgLd HC.out s3; rw [HN0.out] at l0; rw [HT1.out] at l3))
      | (go_at_call 8; refine right_c s3 HC.out ?_; rintro w4 s4; rw [HRB.out]; clear lC l0 l3; obtain ⟨lC, l0, l3⟩ := cfgLd HC.out s4; rw [HN0.out] at l0; rw [HT1.out] at l3))
    all_goals exact HK.out _ s9.below
  | true =>
  cases ht3 : (t1 != 0) with
  | true =>
    go_enter Tryz.func3, Tryz.ntmps3
    go_wp2_with (first
      | (refine wpl_boxA (vs := ivs c) rfl (.tmp 1) rfl rfl (St.init W) ?_; rintro C w1 s1)
      | (go_at_call 6; have gg := s4; refine speaks_c HF.out s4 ?_; clear gg; rintro w9 s9)
      | (go_at_call 6; have gg := s3; refine speaks_c HF.out s3 ?_; clear gg; rintro w9 s9)
      | (go_at_call 6; refine speaks_c HF.out s1 ?_; rintro w2 s2)
      | (go_at_call 7; refine few20_c s2 (HRD.out.rds _) HRR.out ?_; rintro w3 (_ | _) s3 hb; all_goals (have HFW := hid hb; clear hb; obtain ⟨lC, l0, l3⟩ := cfgLd HC.out s3; rw [HN0.out] at l0; rw [HT1.out] at l3))
      | (go_at_call 8; refine right_c s3 HC.out ?_; rintro w4 s4; rw [HRB.out]; clear lC l0 l3; obtain ⟨lC, l0, l3⟩ := cfgLd HC.out s4; rw [HN0.out] at l0; rw [HT1.out] at l3))
    all_goals exact HK.out _ s9.below
  | false =>
  have HT3 : Hid (t1 = 0) := hid (by simpa using ht3)
  cases d0 : decide (self < 0) with
  | true =>
    go_enter Tryz.func3, Tryz.ntmps3
    go_wp2_with (first
      | (refine wpl_boxA (vs := ivs c) rfl (.tmp 1) rfl rfl (St.init W) ?_; rintro C w1 s1)
      | (go_at_call 6; have gg := s4; refine speaks_c HF.out s4 ?_; clear gg; rintro w9 s9)
      | (go_at_call 6; have gg := s3; refine speaks_c HF.out s3 ?_; clear gg; rintro w9 s9)
      | (go_at_call 6; refine speaks_c HF.out s1 ?_; rintro w2 s2)
      | (go_at_call 7; refine few20_c s2 (HRD.out.rds _) HRR.out ?_; rintro w3 (_ | _) s3 hb; all_goals (have HFW := hid hb; clear hb; obtain ⟨lC, l0, l3⟩ := cfgLd HC.out s3; rw [HN0.out] at l0; rw [HT1.out] at l3))
      | (go_at_call 8; refine right_c s3 HC.out ?_; rintro w4 s4; rw [HRB.out]; clear lC l0 l3; obtain ⟨lC, l0, l3⟩ := cfgLd HC.out s4; rw [HN0.out] at l0; rw [HT1.out] at l3))
    all_goals exact HK.out _ s9.below
  | false =>
  cases d1 : decide (nn ≤ self) with
  | true =>
    go_enter Tryz.func3, Tryz.ntmps3
    go_wp2_with (first
      | (refine wpl_boxA (vs := ivs c) rfl (.tmp 1) rfl rfl (St.init W) ?_; rintro C w1 s1)
      | (go_at_call 6; have gg := s4; refine speaks_c HF.out s4 ?_; clear gg; rintro w9 s9)
      | (go_at_call 6; have gg := s3; refine speaks_c HF.out s3 ?_; clear gg; rintro w9 s9)
      | (go_at_call 6; refine speaks_c HF.out s1 ?_; rintro w2 s2)
      | (go_at_call 7; refine few20_c s2 (HRD.out.rds _) HRR.out ?_; rintro w3 (_ | _) s3 hb; all_goals (have HFW := hid hb; clear hb; obtain ⟨lC, l0, l3⟩ := cfgLd HC.out s3; rw [HN0.out] at l0; rw [HT1.out] at l3))
      | (go_at_call 8; refine right_c s3 HC.out ?_; rintro w4 s4; rw [HRB.out]; clear lC l0 l3; obtain ⟨lC, l0, l3⟩ := cfgLd HC.out s4; rw [HN0.out] at l0; rw [HT1.out] at l3))
    all_goals exact HK.out _ s9.below
  | false =>
  have HS : Hid (0 ≤ self ∧ self < c.getD 0 0) := hid (by have h0 := of_decide_eq_false d0; have h1 := of_decide_eq_false d1; have h2 := HN0.out; omega)
  have HCF := hid (cfg_ok HRB.out)
  go_enter Tryz.func3, Tryz.ntmps3
  go_wp2_with (first
    | (refine wpl_boxA (vs := ivs c) rfl (.tmp 1) rfl rfl (St.init W) ?_; rintro C w1 s1)
    | (go_at_call 6; have gg := s4; refine speaks_c HF.out s4 ?_; clear gg; rintro w9 s9)
    | (go_at_call 6; have gg := s3; refine speaks_c HF.out s3 ?_; clear gg; rintro w9 s9)
    | (go_at_call 6; refine speaks_c HF.out s1 ?_; rintro w2 s2)
    | (go_at_call 7; refine few20_c s2 (HRD.out.rds _) HRR.out ?_; rintro w3 (_ | _) s3 hb; all_goals (have HFW := hid hb; clear hb; obtain ⟨lC, l0, l3⟩ := cfgLd HC.out s3; rw [HN0.out] at l0; rw [HT1.out] at l3))
    | (go_at_call 8; refine right_c s3 HC.out ?_; rintro w4 s4; rw [HRB.out]; clear lC l0 l3; obtain ⟨lC, l0, l3⟩ := cfgLd HC.out s4; rw [HN0.out] at l0; rw [HT1.out] at l3)
    | (go_at_call 9; refine base_c HC.out HCF.out HS.out s4 ?_; rintro A w5 s5'; clear lC l0 l3; have s5 := s5'.pick 1; clear s5'; obtain ⟨lC, _, _⟩ := cfgLd HC.out s5)
    | (go_at_call 11; refine of_c s5 HC.out ?_; rintro w6 s6; clear lC)
    | (go_at_call 12; refine new_c s6 (HDR.out.st s6) (by have := of_decide_eq_false HDD.out; omega) ?_; rintro dp w7 s7)
    | (go_at_call 10; refine mnew_c (r := baseR c self) (s7.perm [2]) HC.out HRB.out HS.out.2 ?_; rintro b w8 s8; have s9 := mnew_a s8))
  · exact HK.out _ s9.below
  have HE0 : Hid (EMil c self (baseR c self) []) := hid ⟨HCF.out.base HS.out, CalmD.new, HotI.nil (by have := HCF.out.n14; omega), ⟨by show c.getD 3 0 = 0; rw [HT1.out]; exact HT3.out, by show c.getD 4 0 = 0; exact HCF.out.n34 (by rw [HT1.out]; exact HT3.out), rfl⟩, rfl⟩
  have sX : St W w8 (OwnS 4 none 0 0 (tkC []) :: row b 0 (millC A.p c dp none 0 0) :: RepA A (baseR c self) :: DiceA dp ds :: row C 0 (ivs c) :: []) := s9
  clear s1 s2 s3 s4 s5 s6 s7 s8 s9
  have hFW := HFW.out (by simp)
  have HFW2 := hid hFW.2
  clear hFW HFW
  go_loopw [76] (fun ii wr => ∃ (i : Nat) (q : RepV) (l1 : List TkV) (a1 : Option Addr) (n1 c1 : Nat), i ≤ n ∧ ii = .int .i64 i ∧ Hid (EMil c self q l1) ∧ St W wr (OwnS 4 a1 n1 c1 (tkC l1) :: row b 0 (millC A.p c dp a1 n1 c1) :: RepA A q :: DiceA dp ds :: row C 0 (ivs c) :: [])) (fun ii _ => n - (intOf ii).toNat)
  case atStart => exact ⟨0, baseR c self, [], none, 0, 0, Nat.zero_le _, rfl, HE0, sX⟩
  case round =>
    obtain ⟨i, q, l1, a1, n1, c1, hi, rfl, HM, sr⟩ := hrel
    by_cases hlt : i < n
    · have hi2 : (i : Int) < (n : Int) := by omega
      have hbig := HBIG.out
      have rd := HRD.out.st sr
      obtain ⟨g3, o3, rfl⟩ := rd.addr (by omega)
      have hiA : i < l.length := by rw [HLN.out]; exact hlt
      have ci := mactLd rd hiA
      have hx0 := HRR.out _ (List.getElem_mem hiA)
      have hx1 := HFW2.out _ (List.getElem_mem hiA)
      obtain ⟨x, hx⟩ : ∃ x, l[i] = x := ⟨_, rfl⟩
      rw [hx] at ci hx0 hx1
      have HX0 := hid hx0; have HX1 := hid hx1
      clear hx rd hiA hx0 hx1
      obtain ⟨pe, hpe⟩ : ∃ z, x.peer = z := ⟨_, rfl⟩
      have HPE := hid hpe
      obtain ⟨en, hen⟩ : ∃ z, x.m.en = z := ⟨_, rfl⟩
      have HEN := hid hen
      obtain ⟨k0, hk0⟩ : ∃ z, x.kind = z := ⟨_, rfl⟩
      have HK0 := hid hk0
      obtain ⟨k1, hk1⟩ : ∃ z, x.m.kind = z := ⟨_, rfl⟩
      have HK1 := hid hk1
      clear hpe hen hk0 hk1
      have LX : Hid (∀ {w' : World} {R' : List HP} {T : Nat}, St W w' (row T 0 x.cells :: R') → ((loadG 3 (.pointer (some ⟨T, 0, none⟩))).run Tryz.prog w' = .ok (.int .i64 k0) w' ∧ (loadG 3 (.pointer (some ⟨T, 13, none⟩))).run Tryz.prog w' = .ok (.int .i64 k1) w') ∧ ((loadG 3 (.pointer (some ⟨T, 1, none⟩))).run Tryz.prog w' = .ok (.int .i64 pe) w' ∧ (loadG 50 (.pointer (some ⟨T, 13, none⟩))).run Tryz.prog w' = .ok (.agg x.m.cells.toArray) w') ∧
          (loadG 48 (.pointer (some ⟨T, 22 + 2, none⟩))).run Tryz.prog w' = .ok (.slice x.m.ea en x.m.eq) w') :=
        hid (fun s => by obtain ⟨⟨a0, a1, _, _⟩, _, a5, a6, a7⟩ := mactL s; rw [HPE.out] at a1; rw [HK0.out] at a0; rw [HK1.out] at a6; rw [HEN.out] at a7; exact ⟨⟨a0, a6⟩, ⟨a1, a5⟩, a7⟩)
      go_upto_region 12 with (first
        | (refine wpl_allocA rfl rfl zero_mact sr ?_; rintro T w2 s2)
        | (refine wpl_storeA (vs := x.cells) rfl (.tmp 13) (.tmp 79) (by rfl) agg_mact (by rfl) (by rfl) rfl (mact_one x) s2 rfl ?_; rintro w3 s3))
      obtain ⟨⟨l0, l1'⟩, ⟨l2, l3⟩, l4⟩ := LX.out s3
      clear s2 ci
      cases e0 : (k0 != 2) with
      | true =>
        go_wp2_with fail
        go_roundw
        case rel => exact ⟨i + 1, q, l1, a1, n1, c1, by omega, by go_num, HM, s3.drop⟩
        case measure => simp [intOf]; omega
      | false =>
      cases e1 : (k1 != 14) with
      | true =>
        go_wp2_with fail
        go_roundw
        case rel => exact ⟨i + 1, q, l1, a1, n1, c1, by omega, by go_num, HM, s3.drop⟩
        case measure => simp [intOf]; omega
      | false =>
      have HK14 : Hid (x.m.kind = 14) := hid (by rw [HK1.out]; simpa using e1)
      have HSITE : Hid (q.site = self) := hid (by have := HM.out.cfg; unfold RepV.cfgV at this; simp only [Prod.mk.injEq] at this; exact this.2.2.2.2.2)
      obtain ⟨nb, hnb⟩ : ∃ z, nodeB (c.getD 0 0) q.site pe = z := ⟨_, rfl⟩
      have HNB := hid hnb; clear hnb
      obtain ⟨gm, hgm⟩ : ∃ z, goodM x.m x.ks x.es = z := ⟨_, rfl⟩
      have HGM := hid hgm; clear hgm
      have s3b := s3
      clear l2 l3
      go_upto_region 13 with (fail)
      try simp only [Act.put, List.setIfInBounds_toArray, List.set_cons_succ, List.set_cons_zero]
      cases nb with
      | false =>
        go_cut [14, 15, 16] (fun L N E wx => L = .slice none 0 0 ∧ N = .slice none 0 0 ∧ E = .int .i64 1 ∧ St W wx (row T 0 x.cells :: OwnS 4 a1 n1 c1 (tkC l1) :: row b 0 (millC A.p c dp a1 n1 c1) :: RepA A q :: DiceA dp ds :: row C 0 (ivs c) :: []))
        case first =>
          have u := s3b.drew
          have gA := (LX.out u).2.1
          go_region_held3 (fun w' => (loadG 3 (.pointer (some ⟨T, 1, none⟩))).run Tryz.prog w' = .ok (.int .i64 pe) w' ∧ (loadG 50 (.pointer (some ⟨T, 13, none⟩))).run Tryz.prog w' = .ok (.agg x.m.cells.toArray) w')
            (first
              | with_reducible exact gC
              | with_reducible exact gB
              | with_reducible exact gA)
            (first
              | (go_at_call 14; refine msgOf_c u (HX0.out.2.2.1.rds _) (by have := HX1.out.2.2.1; omega) (HX0.out.2.2.2.rds _) (by have := HX1.out.2.2.2; omega) ?_; rintro ma mq ea eq w6 s6; have gB := (LX.out (St.pick 2 s6)).2.1; skip)
              | (go_at_call 13; refine take_no HC.out HNB.out (s6.perm [4, 4]) ?_; rintro w8 s8; have gC := (LX.out (St.pick 4 s8)).2.1))
          all_goals
            go_wp2_with fail
            go_meet
            case rel => exact ⟨rfl, rfl, rfl, ((s8.perm [2, 2]).dropN 2).perm [2, 2, 0, 0]⟩
        case rest =>
          obtain ⟨rfl, rfl, rfl, s9⟩ := hcut
          go_wp2_with fail
          go_roundw
          case rel => exact ⟨i + 1, q, l1, a1, n1, c1, by omega, by go_num, HM, s9.drop⟩
          case measure => simp [intOf]; omega
      | true =>
      cases gm with
      | false =>
        go_cut [14, 15, 16] (fun L N E wx => L = .slice none 0 0 ∧ N = .slice none 0 0 ∧ E = .int .i64 4 ∧ St W wx (row T 0 x.cells :: OwnS 4 a1 n1 c1 (tkC l1) :: row b 0 (millC A.p c dp a1 n1 c1) :: RepA A q :: DiceA dp ds :: row C 0 (ivs c) :: []))
        case first =>
          have u := s3b.drew
          have gA := (LX.out u).2.1
          go_region_held3 (fun w' => (loadG 3 (.pointer (some ⟨T, 1, none⟩))).run Tryz.prog w' = .ok (.int .i64 pe) w' ∧ (loadG 50 (.pointer (some ⟨T, 13, none⟩))).run Tryz.prog w' = .ok (.agg x.m.cells.toArray) w')
            (first
              | with_reducible exact gC
              | with_reducible exact gB
              | with_reducible exact gA)
            (first
              | (go_at_call 14; refine msgOf_c u (HX0.out.2.2.1.rds _) (by have := HX1.out.2.2.1; omega) (HX0.out.2.2.2.rds _) (by have := HX1.out.2.2.2; omega) ?_; rintro ma mq ea eq w6 s6; have gB := (LX.out (St.pick 2 s6)).2.1; skip)
              | (go_at_call 13; refine take_bad (m := ((x.m.withM ma x.m.mn mq).withE ea x.m.en eq)) (ks := x.ks) (es := x.es) HC.out HNB.out (fun h => absurd ((h.symm.trans (goodM_with x.ks x.es)).trans HGM.out) (by decide)) (HX0.out.2.1.rds _) (by have := HX1.out.2.1; show x.m.pn ≤ 4096; omega) OwnS.rds (by have := HX1.out.2.2.1; show x.m.mn ≤ 4096; omega) OwnS.rds.cons (by have := HX1.out.2.2.2; show x.m.en ≤ 4096; omega) (s6.perm [4, 4, 0, 0]) ?_; rintro w8 s8; have gC := (LX.out (St.pick 4 s8)).2.1))
          all_goals
            go_wp2_with fail
            go_meet
            case rel => exact ⟨rfl, rfl, rfl, ((s8.perm [2, 2]).dropN 2).perm [2, 2, 0, 0]⟩
        case rest =>
          obtain ⟨rfl, rfl, rfl, s9⟩ := hcut
          go_wp2_with fail
          go_roundw
          case rel => exact ⟨i + 1, q, l1, a1, n1, c1, by omega, by go_num, HM, s9.drop⟩
          case measure => simp [intOf]; omega
      | true =>
        go_cut [14, 15, 16] (fun L N E wx => ∃ (F : MilV) (na ka ta a9 : Option Addr) (nv nc kn kc tn tc n9 c9 B : Nat), L = .slice (some ⟨B, 0, none⟩) 1 1 ∧ N = .slice na nv nc ∧ E = .int .i64 0 ∧ Hid (F = takeM c q l1 x.ks x.es) ∧ St W wx (row B 0 (LetV.cells ⟨pe, echo15 ka kn kc ta tn tc⟩) :: row T 0 x.cells :: OwnS 9 na nv nc (enC F.news) :: OwnS 3 ka kn kc (mkC F.known) :: OwnS 4 a9 n9 c9 (tkC F.l) :: row b 0 (millC A.p c dp a9 n9 c9) :: RepA A F.r :: DiceA dp ds :: row C 0 (ivs c) :: []))
        case first =>
          have u := s3b.drew
          have gA := (LX.out u).2.1
          go_region_held3 (fun w' => (loadG 3 (.pointer (some ⟨T, 1, none⟩))).run Tryz.prog w' = .ok (.int .i64 pe) w' ∧ (loadG 50 (.pointer (some ⟨T, 13, none⟩))).run Tryz.prog w' = .ok (.agg x.m.cells.toArray) w')
            (first
              | with_reducible exact gC
              | with_reducible exact gB
              | with_reducible exact gA)
            (first
              | (go_at_call 14; refine msgOf_c u (HX0.out.2.2.1.rds _) (by have := HX1.out.2.2.1; omega) (HX0.out.2.2.2.rds _) (by have := HX1.out.2.2.2; omega) ?_; rintro ma mq ea eq w6 s6; have gB := (LX.out (St.pick 2 s6)).2.1; skip)
              | (go_at_call 13; refine take_ok (m := ((x.m.withM ma x.m.mn mq).withE ea x.m.en eq)) (ks := x.ks) (es := x.es) HC.out HNB.out ((goodM_with x.ks x.es).trans HGM.out) (.inl HK14.out) ⟨HCF.out.n14.1, by have := HCF.out.n14; omega⟩ ⟨HCF.out.n15.1, by have := HCF.out.n15; omega⟩ HM.out.ok HM.out.calm HM.out.hot (HX0.out.2.1.rds _) (by have := HX1.out.2.1; show x.m.pn ≤ 4096; omega) OwnS.rds (by have := HX1.out.2.2.1; show x.m.mn ≤ 4096; omega) OwnS.rds.cons (by have := HX1.out.2.2.2; show x.m.en ≤ 4096; omega) (s6.perm [3, 3, 3, 0, 0]) (fun h => absurd (h.symm.trans HK14.out) (by decide)) ?_; rintro - F na nv nc ka kn kc ta tn tc a9 n9 c9 B w8 hF s8; have HFF := hid hF; clear hF; have gC := (LX.out (St.pick 9 s8)).2.1))
          all_goals
            go_wp2_with fail
            go_meet
            case rel => exact ⟨F, _, _, _, _, _, _, _, _, _, _, _, _, _, rfl, rfl, rfl, HFF, ((s8.perm [3, 6, 6]).dropN 3).perm [0, 5]⟩
        case rest =>
          obtain ⟨F, na, ka, ta, a9, nv, nc, kn, kc, tn, tc, n9, c9, B, rfl, rfl, rfl, HFF, s9⟩ := hcut
          have hI : EchI ⟨q, bumpsL (c.getD 15 0) l1 x.ks, [], []⟩ := ⟨HM.out.ok, HM.out.nox, fun _ h => by cases h⟩
          have hA := hI.all (H := c.getD 14 0) x.es
          have hMI : MilI (c.getD 14 0) (c.getD 15 0) F := by rw [HFF.out]; exact (MilI.all (s := ⟨q, bumpsL (c.getD 15 0) l1 x.ks, [], []⟩) ⟨HM.out.ok, HM.out.calm, HM.out.hot.bumps _⟩ HCF.out.n14.1 HCF.out.n15.1 x.es)
          have hA1 : EchI F := by rw [HFF.out]; exact hA.1
          have hA2 : F.news.length + F.known.length = x.es.length := by rw [HFF.out]; have := hA.2; simpa [takeM] using this
          have hCF : F.r.cfgV = (baseR c self).cfgV := by rw [HFF.out]; exact (mmL_cfg _ _ _).trans HM.out.cfg
          have HM2 : Hid (EMil c self F.r F.l) := hid ⟨hMI.ok, hMI.calm, hMI.hot, hA1.nox, hCF⟩
          have HNEWS := hid hA1.news
          have hnv : F.news.length = nv := enC_ln (OwnS.rd (St.pick 2 s9))
          have hkn : F.known.length = kn := mkC_ln (OwnS.rd (St.pick 3 s9))
          have hes : x.es.length = en := by rw [← HEN.out]; exact enC_ln (HX0.out.2.2.2.st s9)
          have e2 : ((kn : Int) + (nv : Int) != (en : Int)) = false := by have : (kn : Int) + (nv : Int) = (en : Int) := by omega
                                                                          simp [this]
          have e3 : (pe != pe) = false := by simp
          have HNV := hid hnv
          have hnv4 : nv ≤ 4096 := by have := HX1.out.2.2.2; have := HEN.out; omega
          have hkn4 : kn ≤ 4096 := by have := HX1.out.2.2.2; have := HEN.out; omega
          clear hI hA hMI hA1 hA2 hCF hnv hkn hes
          go_upto_region 17 with (fail)
          try simp only [Act.put, List.setIfInBounds_toArray, List.set_cons_succ, List.set_cons_zero]
          have hN7 : Nonempty (Cls (fun w' => St W w' (row B 0 (LetV.cells ⟨pe, echo15 ka kn kc ta tn tc⟩) :: row T 0 x.cells :: OwnS 9 na nv nc (enC F.news) :: OwnS 3 ka kn kc (mkC F.known) :: OwnS 4 a9 n9 c9 (tkC F.l) :: row b 0 (millC A.p c dp a9 n9 c9) :: RepA A F.r :: DiceA dp ds :: row C 0 (ivs c) :: []))) := Cls.inh s9
          have f0 : ∀ s : Cls (fun w' => St W w' (row B 0 (LetV.cells ⟨pe, echo15 ka kn kc ta tn tc⟩) :: row T 0 x.cells :: OwnS 9 na nv nc (enC F.news) :: OwnS 3 ka kn kc (mkC F.known) :: OwnS 4 a9 n9 c9 (tkC F.l) :: row b 0 (millC A.p c dp a9 n9 c9) :: RepA A F.r :: DiceA dp ds :: row C 0 (ivs c) :: [])), (loadG 3 (.pointer (some ⟨B, 0, none⟩))).run Tryz.prog s.w = .ok (.int .i64 pe) s.w := fun s => (let_ldR s.h).1
          have f1 : ∀ s : Cls (fun w' => St W w' (row B 0 (LetV.cells ⟨pe, echo15 ka kn kc ta tn tc⟩) :: row T 0 x.cells :: OwnS 9 na nv nc (enC F.news) :: OwnS 3 ka kn kc (mkC F.known) :: OwnS 4 a9 n9 c9 (tkC F.l) :: row b 0 (millC A.p c dp a9 n9 c9) :: RepA A F.r :: DiceA dp ds :: row C 0 (ivs c) :: [])), (loadG 3 (.pointer (some ⟨B, 1, none⟩))).run Tryz.prog s.w = .ok (.int .i64 15) s.w := fun s => (let_ldR s.h).2.1
          have f2 : ∀ s : Cls (fun w' => St W w' (row B 0 (LetV.cells ⟨pe, echo15 ka kn kc ta tn tc⟩) :: row T 0 x.cells :: OwnS 9 na nv nc (enC F.news) :: OwnS 3 ka kn kc (mkC F.known) :: OwnS 4 a9 n9 c9 (tkC F.l) :: row b 0 (millC A.p c dp a9 n9 c9) :: RepA A F.r :: DiceA dp ds :: row C 0 (ivs c) :: [])), (loadG 60 (.pointer (some ⟨B, 11, none⟩))).run Tryz.prog s.w = .ok (.slice ka kn kc) s.w := fun s => (let_ldR s.h).2.2
          have f3 : ∀ s : Cls (fun w' => St W w' (row B 0 (LetV.cells ⟨pe, echo15 ka kn kc ta tn tc⟩) :: row T 0 x.cells :: OwnS 9 na nv nc (enC F.news) :: OwnS 3 ka kn kc (mkC F.known) :: OwnS 4 a9 n9 c9 (tkC F.l) :: row b 0 (millC A.p c dp a9 n9 c9) :: RepA A F.r :: DiceA dp ds :: row C 0 (ivs c) :: [])), (loadG 3 (.pointer (some ⟨T, 1, none⟩))).run Tryz.prog s.w = .ok (.int .i64 pe) s.w := fun s => (LX.out (St.pick 1 s.h)).2.1.1
          have f4 : ∀ s : Cls (fun w' => St W w' (row B 0 (LetV.cells ⟨pe, echo15 ka kn kc ta tn tc⟩) :: row T 0 x.cells :: OwnS 9 na nv nc (enC F.news) :: OwnS 3 ka kn kc (mkC F.known) :: OwnS 4 a9 n9 c9 (tkC F.l) :: row b 0 (millC A.p c dp a9 n9 c9) :: RepA A F.r :: DiceA dp ds :: row C 0 (ivs c) :: [])), (loadG 48 (.pointer (some ⟨T, 24, none⟩))).run Tryz.prog s.w = .ok (.slice x.m.ea en x.m.eq) s.w := fun s => (LX.out (St.pick 1 s.h)).2.2
          refine wp_region_class (fun w' => St W w' (row B 0 (LetV.cells ⟨pe, echo15 ka kn kc ta tn tc⟩) :: row T 0 x.cells :: OwnS 9 na nv nc (enC F.news) :: OwnS 3 ka kn kc (mkC F.known) :: OwnS 4 a9 n9 c9 (tkC F.l) :: row b 0 (millC A.p c dp a9 n9 c9) :: RepA A F.r :: DiceA dp ds :: row C 0 (ivs c) :: [])) (by kernel_rfl) (by kernel_rfl) s9.drew ?_
          try dsimp only [List.append]
          repeat (go_big_quiet_step (fail))
          clear hN7 f0 f1 f2 f3 f4
          refine wpQuiet_nil ?_
          rintro ⟨wq, sq⟩
          dsimp only
          go_wp2_with fail
          go_loopw [148] (fun ii wr => ∃ j : Nat, j ≤ nv ∧ ii = .int .i64 j ∧ St W wr (OwnS 9 na nv nc (enC F.news) :: RepA A F.r :: OwnS 4 a9 n9 c9 (tkC F.l) :: row b 0 (millC A.p c dp a9 n9 c9) :: DiceA dp ds :: row C 0 (ivs c) :: [])) (fun ii _ => nv - (intOf ii).toNat)
          case atStart => exact ⟨0, Nat.zero_le _, rfl, ((sq.perm [0, 0, 1]).dropN 3).perm [0, 2, 0, 0]⟩
          case round =>
            obtain ⟨j, hj, rfl, sw⟩ := hrel
            by_cases hlt2 : j < nv
            · have hj2 : (j : Int) < (nv : Int) := by omega
              have hjL : j < F.news.length := by rw [HNV.out]; exact hlt2
              have rdv := OwnS.rd sw
              obtain ⟨g4, o4, rfl⟩ := rdv.addr (by omega)
              have lj := run_loadG agg_en (b := g4) (o := o4 + j * 9) (vs := F.news[j].cells) rfl (fun _ _ hu => rdv.at2 (enC_get hjL hu))
              have hj0 := HNEWS.out _ (List.getElem_mem hjL)
              obtain ⟨v, hv⟩ : ∃ v, F.news[j] = v := ⟨_, rfl⟩
              rw [hv] at lj hj0
              obtain ⟨y, hy⟩ : ∃ y, tget F.r.tab v.key = y := ⟨_, rfl⟩
              rw [hy] at hj0
              have HY := hid hy
              have HJ0 := hid hj0
              clear hv hy hj0 rdv hjL
              go_upto_region 23 with (first
                | (have gg := s13; refine wpl_allocA rfl rfl zero_en s13 ?_; clear gg; rintro Y w14 s14)
                | (refine wpl_allocA rfl rfl zero_en sw ?_; rintro X w11 s11)
                | (have gg := s14; refine wpl_storeA (vs := y.cells) rfl (.tmp 19) (.tmp 157) (by rfl) agg_en (by rfl) (by rfl) rfl (env_one y) s14 rfl ?_; clear gg; rintro w15 s15)
                | (refine wpl_storeA (vs := v.cells) rfl (.tmp 18) (.tmp 151) (by rfl) agg_en (by rfl) (by rfl) rfl (env_one v) s11 rfl ?_; rintro w12 s12; have lv : (loadG 9 (.pointer (some ⟨X, 0, none⟩))).run Tryz.prog w12 = .ok (.string v.key) w12 := run_ldP (by kernel_rfl) (by have := s12.rowCell (i := 0) (v := .string v.key) rfl; rwa [Nat.zero_add] at this))
                | (go_at_call 15; refine entry_c HM2.out.ok (St.pick 2 s12) ?_; rintro w13 s13; rw [HY.out, HJ0.out.1]))
              have s16 : St W w15 (row Y 0 y.cells :: row X 0 v.cells :: OwnS 9 (some ⟨g4, o4, none⟩) nv nc (enC F.news) :: RepA A F.r :: OwnS 4 a9 n9 c9 (tkC F.l) :: row b 0 (millC A.p c dp a9 n9 c9) :: DiceA dp ds :: row C 0 (ivs c) :: []) := s15.perm [0, 1, 1]
              clear s11 s12 s13 s14 s15 lj lv
              try simp only [Act.put, List.setIfInBounds_toArray, List.set_cons_succ, List.set_cons_zero]
              have hN6 : Nonempty (Cls (fun w' => St W w' (row Y 0 y.cells :: row X 0 v.cells :: OwnS 9 (some ⟨g4, o4, none⟩) nv nc (enC F.news) :: RepA A F.r :: OwnS 4 a9 n9 c9 (tkC F.l) :: row b 0 (millC A.p c dp a9 n9 c9) :: DiceA dp ds :: row C 0 (ivs c) :: []))) := Cls.inh s16
              have fY := fun s : Cls (fun w' => St W w' (row Y 0 y.cells :: row X 0 v.cells :: OwnS 9 (some ⟨g4, o4, none⟩) nv nc (enC F.news) :: RepA A F.r :: OwnS 4 a9 n9 c9 (tkC F.l) :: row b 0 (millC A.p c dp a9 n9 c9) :: DiceA dp ds :: row C 0 (ivs c) :: [])) => (run_loadG agg_en rfl s.h.rowAll : (loadG 67 (.pointer (some ⟨Y, 0, none⟩))).run Tryz.prog s.w = .ok (.agg y.cells.toArray) s.w)
              have fX := fun s : Cls (fun w' => St W w' (row Y 0 y.cells :: row X 0 v.cells :: OwnS 9 (some ⟨g4, o4, none⟩) nv nc (enC F.news) :: RepA A F.r :: OwnS 4 a9 n9 c9 (tkC F.l) :: row b 0 (millC A.p c dp a9 n9 c9) :: DiceA dp ds :: row C 0 (ivs c) :: [])) => (run_loadG agg_en rfl (St.pick 1 s.h).rowAll : (loadG 67 (.pointer (some ⟨X, 0, none⟩))).run Tryz.prog s.w = .ok (.agg v.cells.toArray) s.w)
              refine wp_region_class (fun w' => St W w' (row Y 0 y.cells :: row X 0 v.cells :: OwnS 9 (some ⟨g4, o4, none⟩) nv nc (enC F.news) :: RepA A F.r :: OwnS 4 a9 n9 c9 (tkC F.l) :: row b 0 (millC A.p c dp a9 n9 c9) :: DiceA dp ds :: row C 0 (ivs c) :: [])) (by kernel_rfl) (by kernel_rfl) s16.drew ?_
              try dsimp only [List.append]
              repeat (go_big_quiet_step ((rename_i s; first
                | (go_at_call 17; with_reducible refine enTo_c (e := v) s.h ?_; rintro w4 s4; exact Cls.end _ s4)
                | (go_at_call 17; with_reducible refine enTo_c (e := y) s.h ?_; rintro w4 s4; exact Cls.end _ s4)
                | (go_at_call 16; refine rnewer_c (a := v) (b := y) s.h ?_; rintro w4 s4; rw [HJ0.out.2]; exact Cls.end _ s4))))
              clear hN6 fX fY
              refine wpQuiet_nil ?_
              rintro ⟨w17, s17⟩
              dsimp only
              go_wp2_with fail
              go_roundw
              case rel => exact ⟨j + 1, by omega, by go_num, (s17.drop).drop⟩
              case measure => simp [intOf]; omega
            · have hje : j = nv := by omega
              subst hje
              go_wp2_with fail
              go_roundw
              case rel => exact ⟨i + 1, F.r, F.l, a9, n9, c9, by omega, by go_num, HM2, (sw.drop).perm [1, 1, 0]⟩
              case measure => simp [intOf]; omega
    · have hie : i = n := by omega
      subst hie
      go_wp2_with fail
      exact HK.out _ sr.below
end
end Go.Proofs.YtojfjbbggpfijaaGreatDoor
