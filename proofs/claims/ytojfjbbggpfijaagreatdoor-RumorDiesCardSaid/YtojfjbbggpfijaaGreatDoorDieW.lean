/- The law RumorDies: the walk. Printed by mkDieW.py. -/
import Derived.Test.YtojfjbbggpfijaaGreatDoorDieL
import Derived.Test.YtojfjbbggpfijaaGreatDoorLawC
import Derived.Test.YtojfjbbggpfijaaGreatDoorFirsts
namespace Go.Proofs.YtojfjbbggpfijaaGreatDoor
open Go.RowKit Go.Qd RepV

section
variable {W w : World} {R : List HP} {post : Ending → World → Prop} {A : RAd} {r : RepV}
section
attribute [local go_sem ↓] execOp_ldAny
set_option maxRecDepth 100000 in
set_option maxHeartbeats 4000000 in
/-- A live entry is got. -/
theorem rget_c {k : ByteArray} {e : EnV} (h : RepOK r) (ht : thas r.tab k = true) (he : tget r.tab k = e) (hd : e.dead = false) (st : St W w (RepA A r :: R))
    (K : ∀ w', St W w' (RepA A r :: R) → post (.returned (.tuple #[.string e.val, .bool true])) w') : Calls Tryz.prog 21 #[.pointer (some ⟨A.p, 0, none⟩), .string k] w post := by
  have HK := hid K; clear K
  have HH := hid h; have HT := hid ht; have HE := hid he; have HD := hid hd
  have HL : Hid (r.tab.length ≤ 4096) := hid (by have := h.len; have := h.room; omega)
  have l7 := (repLd st).2.1
  clear h ht he hd
  go_enter Tryz.func21, Tryz.ntmps21
  go_wp2_with (first
    | (go_at_call 44; refine getE_c HH.out.tab HL.out (St.pick 2 (RepA.open.1 st)) ?_; rintro w3 s3; rw [HE.out, HT.out]; have s4 : St W w3 (RepA A r :: R) := RepA.open.2 (s3.perm [1, 1]))
    | (refine wpl_allocA rfl rfl zero_en s4 ?_; rintro T w4 s5)
    | (refine wpl_storeA (vs := e.cells) rfl (.tmp 6) (.tmp 15) (by rfl) agg_en (by rfl) (by rfl) rfl (env_one _) s5 rfl ?_; rintro w5 s6; have lv := (enL s6).2.1; have ld : (loadG 4 (.pointer (some ⟨T, 2, none⟩))).run Tryz.prog w5 = .ok (.bool false) w5 := (by have := (enL s6).2.2.1; rw [HD.out] at this; exact this)))

  exact HK.out _ s6.drop
end
theorem ownI1 {b : Nat} {x : Int} (s : St W w (row b 0 (#[Value.int .i64 x].toList) :: R)) : St W w (OwnS 1 (some ⟨b, 0, none⟩) 1 1 (ivs [x]) :: R) := by
  refine OwnS.close (sp := []) ⟨rfl, rfl, Nat.le_refl _, by unfold maxLen; decide, by simp, fun _ => ⟨_, _, rfl⟩, by intro u hu; simp [ivs] at hu; subst hu; rfl⟩ ?_
  exact s
end
theorem cfgT {W w : World} {R : List HP} {C : Nat} {t : TypeId} {c : List Int} (ht : t = 23) (hc : c.length = 20) (s : St W w (row C 0 (ivs c) :: R)) :
    (loadG t (.pointer (some ⟨C, 0, none⟩))).run Tryz.prog w = .ok (.agg (ivs c).toArray) w := by subst ht; exact (cfgLd hc s).1
theorem dieX_hot {c : List Int} (h : CfgOK c) {L : Nat} (hL : (L : Int) = c.getD 15 0) {m : MkV} (hm : markB m = true) (i : Nat) : HotI (c.getD 14 0) (c.getD 15 0) (dieX L m i) := by
  have h14 := h.n14; have h15 := h.n15
  unfold dieX
  split
  · refine ⟨by show ((1 : Nat) : Int) ≤ c.getD 14 0; omega, by simp, fun t ht => ?_, fun t ht => ?_⟩
    · have ht2 : t = ⟨m, ((i - 1 : Nat) : Int)⟩ := by simpa using ht
      subst ht2
      refine ⟨by show (0 : Int) ≤ ((i - 1 : Nat) : Int); omega, by show ((i - 1 : Nat) : Int) < _; omega⟩
    · have ht2 : t = ⟨m, ((i - 1 : Nat) : Int)⟩ := by simpa using ht
      subst ht2; exact hm
  · exact HotI.nil (by omega)
theorem dieY_hot {c : List Int} (h : CfgOK c) {m : MkV} (hm : markB m = true) (i : Nat) : HotI (c.getD 14 0) (c.getD 15 0) (dieY m i) := by
  have h14 := h.n14; have h15 := h.n15
  unfold dieY
  split
  · exact HotI.nil (by omega)
  · refine ⟨by show ((1 : Nat) : Int) ≤ c.getD 14 0; omega, by simp, fun t ht => ?_, fun t ht => ?_⟩
    · have ht2 : t = ⟨m, 0⟩ := by simpa using ht
      subst ht2
      exact ⟨Int.le_refl _, by show (0 : Int) < _; omega⟩
    · have ht2 : t = ⟨m, 0⟩ := by simpa using ht
      subst ht2; exact hm
section
attribute [local go_sem ↓] execOp_ldAny
variable {W : World} {post : Ending → World → Prop}
set_option maxRecDepth 100000 in
set_option maxHeartbeats 64000000 in
theorem rumorDies_c {c : List Int} {key value : ByteArray} (hc : c.length = 20) (hf : FirstW W) (K : ∀ W2, Below W.heap.size W W2 → post (.returned (.bool true)) W2) :
    Calls Tryz.prog 4 #[.agg (ivs c).toArray, .string key, .string value] W post := by
  have HK := hid K; clear K
  have HC := hid hc; have HF := hid hf
  clear hc hf
  obtain ⟨rb, hrb⟩ : ∃ b, rightB c = b := ⟨_, rfl⟩
  have HRB := hid hrb; clear hrb
  cases rb with
  | false =>
    go_enter Tryz.func4, Tryz.ntmps4
    go_wp2_with (first
      | (refine wpl_boxA (vs := ivs c) rfl (.tmp 0) rfl rfl (St.init W) ?_; rintro C w1 s1)
      | (go_at_call 6; have gg := s4; refine speaks_c HF.out s4 ?_; clear gg; rintro w9 s9)
      | (go_at_call 6; refine speaks_c HF.out s1 ?_; rintro w2 s2; obtain ⟨lC, _, _⟩ := cfgLd HC.out s2)
      | (go_at_call 8; refine right_c s2 HC.out ?_; rintro w4 s4; rw [HRB.out]; clear lC; obtain ⟨lC, _, _⟩ := cfgLd HC.out s4))
    exact HK.out _ s9.below
  | true =>
  cases d1 : decide ((key.size : Int) < 1) with
  | true =>
    go_enter Tryz.func4, Tryz.ntmps4
    go_wp2_with (first
      | (refine wpl_boxA (vs := ivs c) rfl (.tmp 0) rfl rfl (St.init W) ?_; rintro C w1 s1)
      | (go_at_call 6; have gg := s4; refine speaks_c HF.out s4 ?_; clear gg; rintro w9 s9)
      | (go_at_call 6; refine speaks_c HF.out s1 ?_; rintro w2 s2; obtain ⟨lC, _, _⟩ := cfgLd HC.out s2)
      | (go_at_call 8; refine right_c s2 HC.out ?_; rintro w4 s4; rw [HRB.out]; clear lC; obtain ⟨lC, _, _⟩ := cfgLd HC.out s4))
    exact HK.out _ s9.below
  | false =>
  cases d2 : decide (16 < (key.size : Int)) with
  | true =>
    go_enter Tryz.func4, Tryz.ntmps4
    go_wp2_with (first
      | (refine wpl_boxA (vs := ivs c) rfl (.tmp 0) rfl rfl (St.init W) ?_; rintro C w1 s1)
      | (go_at_call 6; have gg := s4; refine speaks_c HF.out s4 ?_; clear gg; rintro w9 s9)
      | (go_at_call 6; refine speaks_c HF.out s1 ?_; rintro w2 s2; obtain ⟨lC, _, _⟩ := cfgLd HC.out s2)
      | (go_at_call 8; refine right_c s2 HC.out ?_; rintro w4 s4; rw [HRB.out]; clear lC; obtain ⟨lC, _, _⟩ := cfgLd HC.out s4))
    exact HK.out _ s9.below
  | false =>
  cases d3 : decide (32 < (value.size : Int)) with
  | true =>
    go_enter Tryz.func4, Tryz.ntmps4
    go_wp2_with (first
      | (refine wpl_boxA (vs := ivs c) rfl (.tmp 0) rfl rfl (St.init W) ?_; rintro C w1 s1)
      | (go_at_call 6; have gg := s4; refine speaks_c HF.out s4 ?_; clear gg; rintro w9 s9)
      | (go_at_call 6; refine speaks_c HF.out s1 ?_; rintro w2 s2; obtain ⟨lC, _, _⟩ := cfgLd HC.out s2)
      | (go_at_call 8; refine right_c s2 HC.out ?_; rintro w4 s4; rw [HRB.out]; clear lC; obtain ⟨lC, _, _⟩ := cfgLd HC.out s4))
    exact HK.out _ s9.below
  | false =>
  have HKS : Hid (1 ≤ key.size ∧ key.size ≤ 16) := hid (by have h1 := of_decide_eq_false d1; have h2 := of_decide_eq_false d2; omega)
  have HVS : Hid (value.size ≤ 32) := hid (by have h3 := of_decide_eq_false d3; omega)
  have HCF := hid (cfg_ok HRB.out)
  have HDP := hid (die_put HCF.out HKS.out HVS.out)
  have HDM := hid (die_merge HCF.out HKS.out HVS.out)
  have HCHK := hid (die_chk HKS.out HVS.out)
  have HMK : Hid (markB (dieK key value) = true) := hid (check_mark HCHK.out)
  have H0 : Hid (0 ≤ (0 : Int) ∧ 0 < c.getD 0 0) := hid (by have := HCF.out.n0; omega)
  have H1 : Hid (0 ≤ (1 : Int) ∧ 1 < c.getD 0 0) := hid (by have := HCF.out.n0; omega)
  obtain ⟨L, hL⟩ : ∃ L : Nat, (L : Int) = c.getD 15 0 := ⟨(c.getD 15 0).toNat, by have := HCF.out.n15; omega⟩
  have HL := hid hL
  have HLB : Hid (1 ≤ L ∧ L ≤ 8) := hid (by have := HCF.out.n15; omega)
  clear hL
  go_enter Tryz.func4, Tryz.ntmps4
  go_upto_region 3 with (first
    | (refine wpl_boxA (vs := ivs c) rfl (.tmp 0) rfl rfl (St.init W) ?_; rintro C w1 s1)
    | (go_at_call 6; have gg := s4; refine speaks_c HF.out s4 ?_; clear gg; rintro w9 s9)
    | (go_at_call 6; refine speaks_c HF.out s1 ?_; rintro w2 s2; obtain ⟨lC, _, _⟩ := cfgLd HC.out s2)
    | (go_at_call 8; refine right_c s2 HC.out ?_; rintro w4 s4; rw [HRB.out]; clear lC; obtain ⟨lC, _, _⟩ := cfgLd HC.out s4))
  try simp only [Act.put, List.setIfInBounds_toArray, List.set_cons_succ, List.set_cons_zero]
  go_cut [7, 8] (fun aa bb wx => ∃ A B : RAd, aa = .pointer (some ⟨A.p, 0, none⟩) ∧ bb = .pointer (some ⟨B.p, 0, none⟩) ∧ St W wx (RepA A (baseR c 0) :: RepA B (baseR c 1) :: row C 0 (ivs c) :: []))
  case first =>
    have u := s4.drew
    obtain ⟨t, ht⟩ : ∃ t : TypeId, t = 23 := ⟨_, rfl⟩
    have e39 : ∀ x, Op.load 23 x = Op.load t x := fun x => by rw [ht]
    simp only [e39]
    have HT := hid ht
    clear e39 ht
    have gA := cfgT HT.out HC.out u
    go_region_held3 (fun w' => (loadG t (.pointer (some ⟨C, 0, none⟩))).run Tryz.prog w' = .ok (.agg (ivs c).toArray) w')
      (first
        | with_reducible exact gC
        | with_reducible exact gB
        | with_reducible exact gA)
      (first
        | (go_at_call 9; first
            | (have gg := s5b; with_reducible refine base_c (self := 0) HC.out HCF.out H0.out s5b ?_; rintro A w6 s6'; have s6 := s6'; have gC := cfgT HT.out HC.out (St.pick 2 s6))
            | (have gg := s5a; with_reducible refine base_c (self := 1) HC.out HCF.out H1.out s5a ?_; rintro B w6 s6'; have s6 := s6'.perm [1]; have gC := cfgT HT.out HC.out (St.pick 2 s6))
            | (with_reducible refine base_c (self := 0) HC.out HCF.out H0.out u ?_; rintro A w5 s5a; have gB := cfgT HT.out HC.out (St.pick 1 s5a))
            | (with_reducible refine base_c (self := 1) HC.out HCF.out H1.out u ?_; rintro B w5 s5b; have gB := cfgT HT.out HC.out (St.pick 1 s5b))))
    all_goals
      go_wp2_with fail
      go_meet
      case rel => exact ⟨_, _, rfl, rfl, s6⟩
  case rest =>
  obtain ⟨A, B, rfl, rfl, s6⟩ := hcut
  clear s1 s2 s4 lC
  have lC := (cfgLd HC.out (St.pick 2 s6)).1
  obtain ⟨ra, hra⟩ : ∃ z, (baseR c 0).put key value = z := ⟨_, rfl⟩
  have HRA := hid hra
  have HROK : Hid (RepOK ra) := hid (by rw [← hra]; exact (HCF.out.base H0.out).put _ _)
  have HRCA : Hid (CalmD ra.d) := hid (by rw [← hra]; exact RepV.put_calm CalmD.new _ _)
  have HRSI : Hid (ra.site = 0) := hid (by rw [← hra]; exact HDP.out.2.2.2.2)
  clear hra
  go_upto_region 11 with (first
    | (go_at_call 11; have gg := s9; refine of_c s9 HC.out ?_; clear gg; rintro w10 s10)
    | (go_at_call 11; refine of_c s6 HC.out ?_; rintro w7 s7; clear lC)
    | (go_at_call 12; have gg := s10; refine new_c s10 (zs := []) (RdS.none0 _ _) (by decide) ?_; clear gg; rintro dq w11 s11)
    | (go_at_call 12; refine new_c s7 (zs := []) (RdS.none0 _ _) (by decide) ?_; rintro dp w8 s8)
    | (go_at_call 10; have gg := s11; refine mnew_c (r := baseR c 1) (s11.perm [4]) HC.out HRB.out H1.out.2 ?_; clear gg; rintro bq w12 s12)
    | (go_at_call 10; refine mnew_c (r := baseR c 0) (s8.perm [1]) HC.out HRB.out H0.out.2 ?_; rintro bp w9 s9; have lC := (cfgLd HC.out (St.pick 4 s9)).1)
    | (go_at_call 18; refine rput_c (r := baseR c 0) (HCF.out.base H0.out) HF.out (St.pick 4 s12) ?_; rintro w13 s13; rw [HRA.out] at s13; rw [HDP.out.1, HDP.out.2.1])
    | (refine wpl_allocA rfl rfl zero_en s13 ?_; rintro E w14 s14)
    | (refine wpl_storeA (vs := (dieE key value).cells) rfl (.tmp 13) (.tmp 79) (by rfl) agg_en (by rfl) (by rfl) rfl (env_one _) s14 rfl ?_; rintro w15 s15))
  have lE := run_loadG agg_en (b := E) (o := 0) (vs := (dieE key value).cells) rfl s15.rowAll
  have s16 := OwnS.none0 (sz := 4) s15
  clear lC
  go_wp2_with (go_at_call 19; refine heat_c (l := []) HC.out (by decide) (s16.perm [0, 5]) ?_; rintro ax nx cx w17 hnx s17; rw [heat_one HCF.out.n14.1 HCHK.out] at hnx s17; have HNX := hid hnx; clear hnx lE)
  have s18 : St W w17 (OwnS 4 ax nx cx (tkC (dieX L (dieK key value) 0)) :: row bp 0 (millC A.p c dp ax nx cx) :: RepA A ra :: DiceA dp [] :: OwnS 4 none 0 0 (tkC (dieY (dieK key value) 0)) :: row bq 0 (millC B.p c dq none 0 0) :: RepA B (dieR c key value 0) :: DiceA dq [] :: row C 0 (ivs c) :: []) :=
    (OwnS.none0 (sz := 4) ((s17.perm [2]).drop)).perm [1, 1, 1, 4]
  clear s6 s7 s8 s9 s10 s11 s12 s13 s14 s15 s16 s17
  go_loopw [15] (fun ii wr => ∃ (i : Nat) (ax ay : Option Addr) (nx cx ny cy : Nat), i ≤ L + 1 ∧ ii = .int .i64 i ∧ St W wr (OwnS 4 ax nx cx (tkC (dieX L (dieK key value) i)) :: row bp 0 (millC A.p c dp ax nx cx) :: RepA A ra :: DiceA dp [] :: OwnS 4 ay ny cy (tkC (dieY (dieK key value) i)) :: row bq 0 (millC B.p c dq ay ny cy) :: RepA B (dieR c key value i) :: DiceA dq [] :: row C 0 (ivs c) :: [])) (fun ii _ => L + 1 - (intOf ii).toNat)
  case atStart => exact ⟨0, ax, none, nx, cx, 0, 0, by omega, rfl, s18⟩
  case round =>
    clear s18
    obtain ⟨i, ax, ay, nx, cx, ny, cy, hi, rfl, sr⟩ := hrel
    have l15 : (loadG 3 (.pointer (some ⟨C, 15, none⟩))).run Tryz.prog wr = .ok (.int .i64 (L : Int)) wr := by rw [HL.out]; exact run_ldP (by kernel_rfl) (cfg_at (St.pick 8 sr) (i := 15) (by rw [HC.out]; decide))
    have hLB := HLB.out
    by_cases hlt : i ≤ L
    · have hi2 : decide ((i : Int) ≤ (L : Int)) = true := decide_eq_true (by omega)
      have HI := hid hlt
      have HX1 : Hid (dieX L (dieK key value) i = [⟨dieK key value, ((i - 1 : Nat) : Int)⟩]) := hid (if_pos hlt)
      have HFL : Hid ((dieX L (dieK key value) i).filter (freshB ra) = dieX L (dieK key value) i) := hid (by
        rw [HX1.out, ← HRA.out, List.filter_cons, if_pos (die_fresh HCF.out HKS.out HVS.out _)]; rfl)
      have HZS : Hid (([1] : List Int).filter (nodeB (c.getD 0 0) ra.site) = [1]) := hid (by
        rw [HRSI.out, List.filter_cons, if_pos (nodeB_iff.2 ⟨by decide, H1.out.2, by decide⟩)]; rfl)
      have HTO : Hid (toldL ra (c.getD 17 0) [] (dieX L (dieK key value) i) = [dieE key value]) := hid (by rw [HX1.out, ← HRA.out]; exact die_told HCF.out HKS.out HVS.out _)
      have HXH : Hid (HotI (c.getD 14 0) (c.getD 15 0) (dieX L (dieK key value) i)) := hid (dieX_hot HCF.out HL.out HMK.out i)
      have HYH : Hid (HotI (c.getD 14 0) (c.getD 15 0) (dieY (dieK key value) i)) := hid (dieY_hot HCF.out HMK.out i)
      have HBOK : Hid (RepOK (dieR c key value i) ∧ CalmD (dieR c key value i).d ∧ (dieR c key value i).site = 1) := hid (by
        unfold dieR
        split
        · exact ⟨HCF.out.base H1.out, CalmD.new, rfl⟩
        · exact ⟨(HCF.out.base H1.out).merge _, (RepV.merge_calm CalmD.new _).1, HDM.out.2.2.2.2.2.2⟩)
      have HNBY : Hid (nodeB (c.getD 0 0) (dieR c key value i).site 0 = true) := hid (by rw [HBOK.out.2.2]; exact nodeB_iff.2 ⟨by decide, H0.out.2, by decide⟩)
      have HNBX : Hid (nodeB (c.getD 0 0) ra.site 1 = true) := hid (by rw [HRSI.out]; exact nodeB_iff.2 ⟨by decide, H1.out.2, by decide⟩)
      have H14 : Hid (1 ≤ c.getD 14 0 ∧ c.getD 14 0 ≤ 4000) := hid (by have := HCF.out.n14; omega)
      have H15 : Hid (1 ≤ c.getD 15 0 ∧ c.getD 15 0 ≤ 4000) := hid (by have := HCF.out.n15; omega)
      have sI := ownI1 (sr.alloc #[.int .i64 1] 3)
      obtain ⟨tb, htb⟩ : ∃ t, ((i : Int) == 0) = t := ⟨_, rfl⟩
      have HTB : Hid ((((dieN key value i).length : Int) == 1) = tb) := hid (by
        rw [← htb]
        unfold dieN
        by_cases h0 : i = 0
        · subst h0; rfl
        · rw [if_neg h0]
          have : ((i : Int) == 0) = false := by rw [beq_eq_false_iff_ne]; omega
          rw [this]; rfl)
      clear hlt
      go_upto_region 16 with (go_at_call 20; refine tick_c (ps := [1]) HC.out H14.out.2 HROK.out HXH.out OwnS.rds (by decide) (sI.perm [1, 1, 1, 1]) (fun h => absurd h (by rw [HFL.out, HZS.out, HX1.out]; simp)) ?_; rintro - - n9 ta tn tc X w20 s20'; rw [HFL.out, HZS.out, HTO.out] at s20'; have s20 : St W w20 (row X 0 (LetV.cells ⟨1, rum14 ta tn tc⟩) :: OwnS 9 ta tn tc (enC [dieE key value]) :: OwnS 4 ax n9 cx (tkC (dieX L (dieK key value) i)) :: row bp 0 (millC A.p c dp ax n9 cx) :: RepA A ra :: DiceA dp [] :: OwnS 1 (some ⟨wr.heap.size, 0, none⟩) 1 1 (ivs [1]) :: OwnS 4 ay ny cy (tkC (dieY (dieK key value) i)) :: row bq 0 (millC B.p c dq ay ny cy) :: RepA B (dieR c key value i) :: DiceA dq [] :: row C 0 (ivs c) :: []) := s20')
      clear s20'
      have LT : Hid (∀ {w' : World} {R' : List HP} {Z : Nat} {x : LetV}, St W w' (row Z 0 x.cells :: R') → (loadG 3 (.pointer (some ⟨Z, 0, none⟩))).run Tryz.prog w' = .ok (.int .i64 x.to) w' ∧ (loadG 62 (.pointer (some ⟨Z, 1, none⟩))).run Tryz.prog w' = .ok (.agg x.m.cells.toArray) w') :=
        hid (fun s => ⟨run_ldP (by kernel_rfl) (by have := s.rowCell (i := 0) rfl; rwa [Nat.zero_add] at this), run_loadG (o := 0 + 1) agg58 rfl (St.rowPart s 1 (ys := []) (by simp [LetV.cells]))⟩)
      obtain ⟨t0, t1⟩ := LT.out s20
      have htn : tn = 1 := by have h : ([dieE key value] : List EnV).length = tn := enC_ln (OwnS.rd (St.pick 1 s20)); simpa using h.symm
      have HTN := hid htn
      have HGY := hid (die_good14 (ta := ta) (tn := tn) (tc := tc) HKS.out HVS.out)
      clear htn l15 sI
      go_upto_region 19 with (go_at_call 13; refine take_ok (m := rum14 ta tn tc) (ks := []) (es := [dieE key value]) HC.out HNBY.out HGY.out (.inl rfl) H14.out H15.out HBOK.out.1 HBOK.out.2.1 HYH.out (fun _ _ => RdS.none0 _ _) (by show 0 ≤ 4096; decide) (fun _ _ => RdS.none0 _ _) (by show 0 ≤ 4096; decide) OwnS.rds (by have := HTN.out; show tn ≤ 4096; omega) (s20.perm [7, 7, 7, 1]) (fun h => absurd h (by show ¬ (14 : Int) = 15; decide)) ?_; rintro - F9 na nv nc ka kn kc tb2 tn2 tc2 a9 m9 c9 Y w21 hF s21'; rw [die_y HCF.out HKS.out HVS.out i] at hF; subst hF; dsimp only at s21'; rw [die_back] at s21'; have s21 := s21'; clear s21')
      obtain ⟨t2, t3⟩ := LT.out s21
      have hnv : (dieN key value i).length = nv := enC_ln (OwnS.rd (St.pick 1 s21))
      have e1 : ((nv : Int) == 1) = tb := by rw [← hnv]; exact HTB.out
      have hkn : (dieM (dieK key value) i).length = kn := mkC_ln (OwnS.rd (St.pick 2 s21))
      have HKN : Hid (kn ≤ 4096) := hid (by rw [← hkn]; unfold dieM; split <;> simp)
      have htn2 : ([] : List EnV).length = tn2 := enC_ln (OwnS.rd (St.pick 3 s21))
      have HTN2 : Hid (tn2 ≤ 4096) := hid (by rw [← htn2]; simp)
      have HGX := hid (die_good15 (ka := ka) (kn := kn) (kc := kc) (ta := tb2) (tn := tn2) (tc := tc2) HKS.out HVS.out i)
      clear hnv hkn htn2 t0 t1
      go_wp2_with (go_at_call 13; refine take_ok (m := echo15 ka kn kc tb2 tn2 tc2) (ks := dieM (dieK key value) i) (es := []) HC.out HNBX.out HGX.out (.inr rfl) H14.out H15.out HROK.out HRCA.out HXH.out (fun _ _ => RdS.none0 _ _) (by show 0 ≤ 4096; decide) OwnS.rds HKN.out OwnS.rds.cons HTN2.out (s21.perm [9, 9, 9, 2, 2]) ?_ (fun h => absurd h (by show ¬ (15 : Int) = 14; decide)); rintro - F9 nb nw nd a8 n8 c8 w22 hF s22; rw [die_x HCF.out HL.out ra _ HI.out] at hF; subst hF)
      go_roundw
      case rel => exact ⟨i + 1, _, _, _, _, _, _, by have := HI.out; omega, by go_num, by rw [show dieY (dieK key value) (i + 1) = [⟨dieK key value, 0⟩] from if_neg (by omega), show dieR c key value (i + 1) = dieB c key value from if_neg (by omega)]; exact ((s22.perm [0, 3, 3, 3, 3, 6, 6, 7]).dropN 8).perm [0, 0, 0, 3]⟩
      case measure => have := HI.out; simp [intOf]; omega
    · have hie : i = L + 1 := by omega
      subst hie
      have hi2 : decide (((L + 1 : Nat) : Int) ≤ (L : Int)) = false := decide_eq_false (by omega)
      have hX : dieX L (dieK key value) (L + 1) = [] := if_neg (by omega)
      have hR : dieR c key value (L + 1) = dieB c key value := if_neg (by omega)
      rw [hX, hR] at sr
      have hnx : ([] : List TkV).length = nx := tkC_ln (OwnS.rd sr)
      obtain rfl : nx = 0 := by simpa using hnx.symm
      have H14 : Hid (1 ≤ c.getD 14 0 ∧ c.getD 14 0 ≤ 4000) := hid (by have := HCF.out.n14; omega)
      have ev : ((dieE key value).val.toList == value.toList) = true := by show (value.toList == value.toList) = true; simp
      clear hX hR hnx hlt hLB
      go_wp2_with (first
        | (go_at_call 21; refine rget_c (e := dieE key value) ((HCF.out.base H1.out).merge _) HDM.out.2.2.2.2.1 HDM.out.2.2.2.2.2.1 rfl (St.pick 6 sr) ?_; rintro w30 s30)
        | (go_at_call 22; refine hot_c HC.out (by decide) (s30.perm [1, 1]) ?_; rintro ha hcp w31 s31; have sI := ownI1 (s31.alloc #[.int .i64 1] 3))
        | (go_at_call 20; refine tick_c (l := []) (ps := [1]) HC.out H14.out.2 HROK.out (HotI.nil (by have := H14.out.1; omega)) OwnS.rds (by decide) (sI.perm [2, 2, 3, 3, 0]) ?_ (fun h => absurd rfl h); rintro - n9 w32 s32))
      exact HK.out _ s32.below
end
end Go.Proofs.YtojfjbbggpfijaaGreatDoor
