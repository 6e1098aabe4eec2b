/- The quota: the law's walk. -/
import Derived.Test.YtggbeedghblakaaGreatDoorSpkR
import Derived.Test.YtggbeedghblakaaGreatDoorRngB
import Derived.Test.YtggbeedghblakaaGreatDoorRngO
import Derived.Test.YtggbeedghblakaaGreatDoorRepU
import Derived.Test.YtggbeedghblakaaGreatDoorTikB
import Derived.Test.YtggbeedghblakaaGreatDoorLawR
import Derived.Test.YtggbeedghblakaaGreatDoorLib
import Derived.Deep.RegionLaw
import Derived.Deep.DeepCutAuto
import Derived.Deep.CutBlock
namespace Go.Proofs.YtggbeedghblakaaGreatDoor
open Go.RowKit Go.Qd RepV

/-- What holds of the replica between acts. -/
structure QInv (r0 q : RepV) : Prop where
  ok : RepOK q
  g : GInv q
  gr : GrInv q
  c : SameC r0 q

theorem agg_ropt : AggT Tryz.prog 51 5 := ⟨⟨_, Tryz.underlying51, rfl⟩, by kernel_rfl⟩

theorem entAc {W w : World} {R : List HP} {T : Nat} {e : EnV} (s : St W w (row T 0 e.cells :: R)) : w.cell? ⟨T, 5, none⟩ = some (.int .i64 e.ac) := by have := s.rowCell (i := 5) (v := .int .i64 e.ac) rfl; rwa [Nat.zero_add] at this

section
attribute [local go_sem ↓] execOp_ldAny
variable {W : World} {post : Ending → World → Prop}

theorem rocheck2_c {w : World} {R : List HP} {o : OptV} (st : St W w R) (K1 : ∀ w', St W w' R → post (.returned (.int .i64 14)) w') (K0 : o.check = 0 → ∀ w', St W w' R → post (.returned (.int .i64 0)) w') : Calls Tryz.prog 25 #[.agg o.cells.toArray] w post := rocheck_c st K0 K1

set_option maxRecDepth 100000 in
set_option maxHeartbeats 16000000 in
theorem quota_c {a : Option Addr} {n c : Nat} {l : List RAct} {o : OptV} (hf : FirstW W) (rd : RdS W 12 a n c (ractC l))
    (K : ∀ w', Below W.heap.size W w' → post (.returned (.bool true)) w') :
    Calls Tryz.prog 6 #[.agg o.cells.toArray, .slice a n c] W post := by
  have HK := hid K; clear K
  have HF := hid hf; have HRD := hid rd
  have HN : Hid (l.length = n) := hid (ractC_ln rd)
  have hbig := rd.big
  have HBIG := hid hbig
  clear hf rd
  go_enter Tryz.func6, Tryz.ntmps6
  go_wp2_with (first
    | (refine wpl_boxA (vs := o.cells) rfl (.tmp 0) rfl rfl (St.init W) ?_; rintro O w1 s1)
    | (go_at_call 12; have gg := s4; refine speaks_c HF.out s4 ?_; rintro w9 s9)
    | (go_at_call 12; have gg := s3; refine speaks_c HF.out s3 ?_; rintro w9 s9)
    | (go_at_call 12; refine speaks_c HF.out s1 ?_; rintro w2 s2)
    | (go_at_call 24; refine few12_c (HRD.out.rds _) HBIG.out s2 ?_; rintro (_ | _) w3 hb s3; all_goals (have HFW := hid hb; clear hb; have lO := run_loadG agg_ropt (vs := o.cells) rfl s3.rowAll))
    | (go_at_call 25; refine rocheck2_c s3 (fun w4 s4 => ?_) (fun hc w4 s4 => ?_))
    | (go_at_call 14; refine dnew_c s4 ?_; rintro d w5 s5; have lO2 := run_loadG agg_ropt (vs := o.cells) rfl (St.pick 1 s5).rowAll)
    | (go_at_call 26; refine of12_c s5 ?_; rintro w6 s6)
    | (go_at_call 13; refine open_g (o := o) (D' := DskV.new) (es := []) hc (by have := (check_ok hc).1; omega) DskOK.new (jopens0 DskOK.new rfl rfl) (fun _ h => by cases h) s6 ?_ (fun _ h => by cases h); rintro q A w7 hq - s7; have hq2 := Option.some.inj hq; subst hq2; clear hq))
  · exact HK.out _ s9.below
  · exact HK.out _ s9.below
  have hck := check_ok hc
  obtain ⟨q0, hq0⟩ : ∃ q0, RepV.fresh o.nodes o.quota o.retain o.t1 o.t2 0 DskV.new = q0 := ⟨_, rfl⟩
  have hI0 : QInv q0 q0 := by
    rw [← hq0]
    exact ⟨RepOK.fresh hck.1 hck.2.1 (by omega) hck.2.2.2.1 DskOK.new, (fun _ h => by cases h), (fun _ h => by cases h), SameC.refl _⟩
  have HC : Hid (q0.nodes = o.nodes ∧ q0.quota = o.quota ∧ q0.retain = o.retain ∧ q0.t1 = o.t1 ∧ q0.t2 = o.t2 ∧ q0.site = 0) := hid (by rw [← hq0]; exact ⟨rfl, rfl, rfl, rfl, rfl, rfl⟩)
  rw [hq0] at s7
  have HCK := hid hck; have HI0 := hid hI0
  clear hc hq0 hck hI0 s1 s2 s3 s4 s5 s6 lO lO2 HFW
  go_loopw [44] (fun ii wr => ∃ (i : Nat) (q : RepV), i ≤ n ∧ ii = .int .i64 i ∧ Hid (QInv q0 q) ∧ St W wr (RepA A q :: row O 0 o.cells :: [])) (fun ii _ => n - (intOf ii).toNat)
  case atStart => exact ⟨0, q0, Nat.zero_le _, rfl, HI0, s7⟩
  case round =>
    obtain ⟨i, q, hi, rfl, HQ, sr⟩ := hrel
    by_cases hlt : i < n
    · have hi2 : (i : Int) < (n : Int) := by omega
      have hiA : i < l.length := by rw [HN.out]; exact hlt
      have rdr := HRD.out.st sr
      obtain ⟨g3, o3, rfl⟩ := rdr.addr (by omega)
      have ci := ract_ld rdr hiA
      obtain ⟨x, hx⟩ : ∃ x, l[i] = x := ⟨_, rfl⟩
      rw [hx] at ci
      clear hx rdr hiA
      go_upto_region 11 with (first
        | (refine wpl_allocA rfl rfl zero_ra sr ?_; rintro T w2 s2)
        | (refine wpl_storeA (vs := x.cells) rfl (.tmp 9) (.tmp 47) (by rfl) agg_ra (by rfl) (by rfl) rfl (ract_one _) s2 rfl ?_; rintro w3 s3)
        | (go_at_call 35; refine own_c HQ.out.ok (St.pick 1 s3) ?_; rintro a4 n4 c4 w4 hn4 s4; subst hn4))
      have s5 : St W w4 (row T 0 x.cells :: RepA A q :: row O 0 o.cells :: []) := s4.drop.perm [1]
      obtain ⟨l0, l1, l2, l3⟩ := raLd s5
      clear s4 s3 s2 ci
      obtain ⟨kd, hkd⟩ : ∃ kd, x.kind = kd := ⟨_, rfl⟩
      rw [hkd] at l0
      clear hkd
      go_upto_block 2 with (fail)
      go_cut [9] (fun _ wx => ∃ q2, Hid (QInv q0 q2) ∧ St W wx (RepA A q2 :: row O 0 o.cells :: []))
      case first =>
        have hqc := HQ.out.c
        have hC := HC.out
        have HQC : Hid (q.quota = o.quota ∧ q.site = 0 ∧ q.nodes = o.nodes ∧ q.retain = o.retain ∧ q.t2 = o.t2) := hid ⟨hqc.quota.trans hC.2.1, hqc.site.trans hC.2.2.2.2.2, hqc.nodes.trans hC.1, hqc.retain.trans hC.2.2.1, hqc.t2.trans hC.2.2.2.2.1⟩
        clear hqc hC
        by_cases k0 : kd = 0
        · subst k0
          obtain ⟨q2, hq2⟩ : ∃ q2, q.put x.key x.val = q2 := ⟨_, rfl⟩
          obtain ⟨z, hz⟩ : ∃ z, q.putW x.key x.val = z := ⟨_, rfl⟩
          obtain ⟨e, he⟩ : ∃ e, q.putX x.key x.val = e := ⟨_, rfl⟩
          have HI2 : Hid (QInv q0 q2) := hid (by rw [← hq2]; exact ⟨HQ.out.ok.put _ _, HQ.out.g.put' _ _, HQ.out.gr.put' HQ.out.ok _ _, HQ.out.c.trans (SameC.put _ _ _)⟩)
          have HP : Hid (z = 0 → q2.own.length ≤ q.own.length ∨ (q.own.length : Int) < o.quota) := hid (by rw [← hz, ← hq2, ← HQC.out.1]; exact put_quota HQ.out.ok)
          have HQ2 := hid hq2; have HZ := hid hz; have HE := hid he
          clear hq2 hz he
          cases hz0 : (z == 0) with
          | false =>
            go_wp2_with (first
              | (go_at_call 27; refine rput_c HQ.out.ok HF.out (St.pick 1 s5) ?_; rintro w6 s6; rw [HQ2.out] at s6; rw [HZ.out, HE.out])
              | (refine wpl_allocA rfl rfl zero_en s6 ?_; rintro U w8 s8)
              | (refine wpl_storeA (vs := e.cells) rfl (.tmp 11) (.tmp 62) (by rfl) agg_en (by rfl) (by rfl) rfl (env_one _) s8 rfl ?_; rintro w9 s9))
            go_meet
            case rel => exact ⟨q2, HI2, (s9.drop.perm [0, 1]).takeN 2⟩
          | true =>
            have hzz : z = 0 := by simpa using hz0
            have hP := HP.out hzz
            have HP2 := hid hP
            clear hzz hP
            by_cases hg : q.own.length < q2.own.length
            · have d1 : decide ((q2.own.length : Int) > (q.own.length : Int)) = true := decide_eq_true (by omega)
              have d2 : decide ((q.own.length : Int) ≥ o.quota) = false := decide_eq_false (by have := HP2.out; omega)
              go_wp2_with (first
                | (go_at_call 27; refine rput_c HQ.out.ok HF.out (St.pick 1 s5) ?_; rintro w6 s6; rw [HQ2.out] at s6; rw [HZ.out, HE.out])
                | (refine wpl_allocA rfl rfl zero_en s6 ?_; rintro U w8 s8)
                | (refine wpl_storeA (vs := e.cells) rfl (.tmp 11) (.tmp 62) (by rfl) agg_en (by rfl) (by rfl) rfl (env_one _) s8 rfl ?_; rintro w9 s9)
                | (go_at_call 35; refine own_c HI2.out.ok (St.pick 1 s9) ?_; rintro aa na ca wa hna sa; subst hna; have lq := run_ldP (t := 3) (by kernel_rfl) (optRow (St.pick 4 sa)).2.1))
              go_meet
              case rel => exact ⟨q2, HI2, ((sa.perm [1, 3]).takeN 2)⟩
            · have d1 : decide ((q2.own.length : Int) > (q.own.length : Int)) = false := decide_eq_false (by omega)
              go_wp2_with (first
                | (go_at_call 27; refine rput_c HQ.out.ok HF.out (St.pick 1 s5) ?_; rintro w6 s6; rw [HQ2.out] at s6; rw [HZ.out, HE.out])
                | (refine wpl_allocA rfl rfl zero_en s6 ?_; rintro U w8 s8)
                | (refine wpl_storeA (vs := e.cells) rfl (.tmp 11) (.tmp 62) (by rfl) agg_en (by rfl) (by rfl) rfl (env_one _) s8 rfl ?_; rintro w9 s9)
                | (go_at_call 35; refine own_c HI2.out.ok (St.pick 1 s9) ?_; rintro aa na ca wa hna sa; subst hna; have lq := run_ldP (t := 3) (by kernel_rfl) (optRow (St.pick 4 sa)).2.1))
              go_meet
              case rel => exact ⟨q2, HI2, ((sa.perm [1, 3]).takeN 2)⟩
        by_cases k1 : kd = 1
        · subst k1
          go_wp2_with (go_at_call 29; refine rdel_c HQ.out.ok (by have := HQC.out; have := HCK.out.1; omega) (by have := HQC.out; have := HCK.out.2.2.1; omega) (by have := HQC.out; have := HCK.out.1; omega) HF.out (St.pick 1 s5) ?_; rintro kp w6 s6)
          go_meet
          case rel => exact ⟨_, hid ⟨HQ.out.ok.del _ _, HQ.out.g.del _ _, HQ.out.gr.del HQ.out.ok _ _, HQ.out.c.trans (SameC.del _ _ _)⟩, (s6.perm [0, 1]).takeN 2⟩
        by_cases k2 : kd = 2
        · subst k2
          go_wp2_with (first
            | (go_at_call 17; refine enOf_c (e := x.e) s5 ?_; rintro w6 s6)
            | (go_at_call 16; refine merge_c (e := x.e) HQ.out.ok (St.pick 1 s6) ?_; rintro w8 s8))
          go_meet
          case rel => exact ⟨_, hid ⟨HQ.out.ok.merge _, HQ.out.g.merge HQ.out.ok _, HQ.out.gr.merge HQ.out.ok _, HQ.out.c.trans (SameC.merge _ _)⟩, (s8.perm [0, 1]).takeN 2⟩
        by_cases k3 : kd = 3
        · subst k3
          go_wp2_with (go_at_call 30; refine rtick_c HQ.out.ok (fun p hp => (HQ.out.g p hp).1) (fun p hp => (HQ.out.gr p hp).1) (St.pick 1 s5) ?_; rintro aa na ca w6 s6)
          go_meet
          case rel => exact ⟨_, hid ⟨HQ.out.ok.tick, HQ.out.g.tick HQ.out.ok, HQ.out.gr.tick HQ.out.ok (by have := HQC.out; have := HCK.out.2.2.2.2.1; omega), HQ.out.c.trans (SameC.tick HQ.out.ok)⟩, (s6.perm [1, 2]).takeN 2⟩
        have e0 : (kd == 0) = false := by simpa using k0
        have e1 : (kd == 1) = false := by simpa using k1
        have e2 : (kd == 2) = false := by simpa using k2
        have e3 : (kd == 3) = false := by simpa using k3
        go_wp2_with fail
        go_meet
        case rel => exact ⟨q, HQ, s5.drop⟩
      case rest =>
      obtain ⟨q2, HI2, s6⟩ := hcut
      go_wp2_with (go_at_call 23; refine entries_c HI2.out.ok s6 ?_; rintro ae ne ce we hne s7; have HNE := hid hne; clear hne)
      have hne4 : ne ≤ 4096 := by rw [HNE.out]; have := HI2.out.ok.len; have := HI2.out.ok.room; omega
      go_loopw [99] (fun ii wr => ∃ j : Nat, j ≤ ne ∧ ii = .int .i64 j ∧ St W wr (OwnS 9 ae ne ce (ke2 q2.tab) :: RepA A q2 :: row O 0 o.cells :: [])) (fun ii _ => ne - (intOf ii).toNat)
      case atStart => exact ⟨0, Nat.zero_le _, rfl, s7⟩
      case round =>
        obtain ⟨j, hj, rfl, sw⟩ := hrel
        by_cases hlt2 : j < ne
        · have hj2 : (j : Int) < (ne : Int) := by omega
          have hjA : j < q2.tab.length := by rw [← HNE.out]; exact hlt2
          have rdr := OwnS.rd sw
          obtain ⟨g4, o4, rfl⟩ := rdr.addr (by omega)
          have cj := ke2_ld rdr hjA
          have hq := HI2.out.g _ (List.getElem_mem hjA)
          obtain ⟨p, hp⟩ : ∃ p, q2.tab[j] = p := ⟨_, rfl⟩
          rw [hp] at cj hq
          obtain ⟨e, he⟩ : ∃ e, p.2 = e := ⟨_, rfl⟩
          rw [he] at cj hq
          obtain ⟨hq1, hq2, hq3⟩ := hq
          have ht1 : q2.t1 = o.t1 := HI2.out.c.t1.trans HC.out.2.2.2.1
          rw [ht1] at hq3
          have HRC : Hid (rcheckE e = 0) := hid ((rcheckE_is e).trans hq1)
          have HQ3 := hid hq3
          obtain ⟨cn, hcn⟩ : ∃ cn, q2.cnt = cn := ⟨_, rfl⟩
          have HCN := hid hcn
          rw [hcn] at hq2
          have e1 : decide (e.ac > cn) = false := decide_eq_false (by omega)
          clear hp he hq1 hq2 hq3 ht1 hcn rdr hjA
          go_upto_region 25 with (first
            | (refine wpl_allocA rfl rfl zero_en sw ?_; rintro X w2 s2)
            | (refine wpl_storeA (vs := e.cells) rfl (.tmp 14) (.tmp 102) (by rfl) agg_en (by rfl) (by rfl) rfl (env_one _) s2 rfl ?_; rintro w3 s3))
          clear s2 cj
          cases hdd : e.dead with
          | false =>
            have HDD := hid hdd
            clear hdd HQ3
            try simp only [Act.put, List.setIfInBounds_toArray, List.set_cons_succ, List.set_cons_zero]
            have hN6 : Nonempty (Cls (fun w' => St W w' (row X 0 e.cells :: OwnS 9 (some ⟨g4, o4, none⟩) ne ce (ke2 q2.tab) :: RepA A q2 :: row O 0 o.cells :: []))) := Cls.inh s3
            have fac := fun s : Cls (fun w' => St W w' (row X 0 e.cells :: OwnS 9 (some ⟨g4, o4, none⟩) ne ce (ke2 q2.tab) :: RepA A q2 :: row O 0 o.cells :: [])) => run_ldP (t := 3) (by kernel_rfl) (entAc s.h)
            have fcl := fun s : Cls (fun w' => St W w' (row X 0 e.cells :: OwnS 9 (some ⟨g4, o4, none⟩) ne ce (ke2 q2.tab) :: RepA A q2 :: row O 0 o.cells :: [])) => (repLd (St.pick 2 s.h)).1
            have fde := fun s : Cls (fun w' => St W w' (row X 0 e.cells :: OwnS 9 (some ⟨g4, o4, none⟩) ne ce (ke2 q2.tab) :: RepA A q2 :: row O 0 o.cells :: [])) => (HDD.out ▸ (enL s.h).2.2.1 : (loadG 4 (.pointer (some ⟨X, 2, none⟩))).run Tryz.prog s.w = .ok (.bool false) s.w)
            have ft1 := fun s : Cls (fun w' => St W w' (row X 0 e.cells :: OwnS 9 (some ⟨g4, o4, none⟩) ne ce (ke2 q2.tab) :: RepA A q2 :: row O 0 o.cells :: [])) => run_ldP (t := 3) (by kernel_rfl) (optRow (St.pick 3 s.h)).2.2.2.1
            have fag := fun s : Cls (fun w' => St W w' (row X 0 e.cells :: OwnS 9 (some ⟨g4, o4, none⟩) ne ce (ke2 q2.tab) :: RepA A q2 :: row O 0 o.cells :: [])) => (enL s.h).2.2.2.2.2.2.1
            have fA := fun s : Cls (fun w' => St W w' (row X 0 e.cells :: OwnS 9 (some ⟨g4, o4, none⟩) ne ce (ke2 q2.tab) :: RepA A q2 :: row O 0 o.cells :: [])) => (enL s.h).2.2.2.2.2.2.2
            refine wp_region_class (fun w' => St W w' (row X 0 e.cells :: OwnS 9 (some ⟨g4, o4, none⟩) ne ce (ke2 q2.tab) :: RepA A q2 :: row O 0 o.cells :: [])) (by kernel_rfl) (by kernel_rfl) s3.drew ?_
            try dsimp only [List.append]
            repeat (go_big_quiet_step ((rename_i s; first
              | (go_at_call 36; refine now_c (St.pick 1 (RepA.open.1 (St.pick 2 s.h))) ?_; rw [HCN.out]; exact Cls.end _ s.h)
              | (go_at_call 20; refine enTo_c (e := e) s.h ?_; rintro w4 s4; exact Cls.end _ s4)
              | (go_at_call 18; refine rcheckE_c (e := e) s.h ?_; rintro w4 s4; rw [HRC.out]; exact Cls.end _ s4))))
            clear hN6 fac fcl fde ft1 fag fA
            refine wpQuiet_nil ?_
            rintro ⟨w6, s6⟩
            dsimp only
            go_wp2_with fail
            go_roundw
            case rel => exact ⟨j + 1, by omega, by go_num, s6.drop⟩
            case measure => simp [intOf]; omega
          | true =>
            have HDD := hid hdd
            by_cases htb : o.t1 > 0
            · have e2 : decide (o.t1 > 0) = true := decide_eq_true htb
              have e3 : decide (e.age ≥ o.t1) = false := decide_eq_false (by have := HQ3.out hdd htb; omega)
              clear hdd HQ3 htb
              try simp only [Act.put, List.setIfInBounds_toArray, List.set_cons_succ, List.set_cons_zero]
              have hN6 : Nonempty (Cls (fun w' => St W w' (row X 0 e.cells :: OwnS 9 (some ⟨g4, o4, none⟩) ne ce (ke2 q2.tab) :: RepA A q2 :: row O 0 o.cells :: []))) := Cls.inh s3
              have fac := fun s : Cls (fun w' => St W w' (row X 0 e.cells :: OwnS 9 (some ⟨g4, o4, none⟩) ne ce (ke2 q2.tab) :: RepA A q2 :: row O 0 o.cells :: [])) => run_ldP (t := 3) (by kernel_rfl) (entAc s.h)
              have fcl := fun s : Cls (fun w' => St W w' (row X 0 e.cells :: OwnS 9 (some ⟨g4, o4, none⟩) ne ce (ke2 q2.tab) :: RepA A q2 :: row O 0 o.cells :: [])) => (repLd (St.pick 2 s.h)).1
              have fde := fun s : Cls (fun w' => St W w' (row X 0 e.cells :: OwnS 9 (some ⟨g4, o4, none⟩) ne ce (ke2 q2.tab) :: RepA A q2 :: row O 0 o.cells :: [])) => (HDD.out ▸ (enL s.h).2.2.1 : (loadG 4 (.pointer (some ⟨X, 2, none⟩))).run Tryz.prog s.w = .ok (.bool true) s.w)
              have ft1 := fun s : Cls (fun w' => St W w' (row X 0 e.cells :: OwnS 9 (some ⟨g4, o4, none⟩) ne ce (ke2 q2.tab) :: RepA A q2 :: row O 0 o.cells :: [])) => run_ldP (t := 3) (by kernel_rfl) (optRow (St.pick 3 s.h)).2.2.2.1
              have fag := fun s : Cls (fun w' => St W w' (row X 0 e.cells :: OwnS 9 (some ⟨g4, o4, none⟩) ne ce (ke2 q2.tab) :: RepA A q2 :: row O 0 o.cells :: [])) => (enL s.h).2.2.2.2.2.2.1
              have fA := fun s : Cls (fun w' => St W w' (row X 0 e.cells :: OwnS 9 (some ⟨g4, o4, none⟩) ne ce (ke2 q2.tab) :: RepA A q2 :: row O 0 o.cells :: [])) => (enL s.h).2.2.2.2.2.2.2
              refine wp_region_class (fun w' => St W w' (row X 0 e.cells :: OwnS 9 (some ⟨g4, o4, none⟩) ne ce (ke2 q2.tab) :: RepA A q2 :: row O 0 o.cells :: [])) (by kernel_rfl) (by kernel_rfl) s3.drew ?_
              try dsimp only [List.append]
              repeat (go_big_quiet_step ((rename_i s; first
                | (go_at_call 36; refine now_c (St.pick 1 (RepA.open.1 (St.pick 2 s.h))) ?_; rw [HCN.out]; exact Cls.end _ s.h)
                | (go_at_call 20; refine enTo_c (e := e) s.h ?_; rintro w4 s4; exact Cls.end _ s4)
                | (go_at_call 18; refine rcheckE_c (e := e) s.h ?_; rintro w4 s4; rw [HRC.out]; exact Cls.end _ s4))))
              clear hN6 fac fcl fde ft1 fag fA
              refine wpQuiet_nil ?_
              rintro ⟨w6, s6⟩
              dsimp only
              go_wp2_with fail
              go_roundw
              case rel => exact ⟨j + 1, by omega, by go_num, s6.drop⟩
              case measure => simp [intOf]; omega
            · have e2 : decide (o.t1 > 0) = false := decide_eq_false htb
              clear hdd HQ3 htb
              try simp only [Act.put, List.setIfInBounds_toArray, List.set_cons_succ, List.set_cons_zero]
              have hN6 : Nonempty (Cls (fun w' => St W w' (row X 0 e.cells :: OwnS 9 (some ⟨g4, o4, none⟩) ne ce (ke2 q2.tab) :: RepA A q2 :: row O 0 o.cells :: []))) := Cls.inh s3
              have fac := fun s : Cls (fun w' => St W w' (row X 0 e.cells :: OwnS 9 (some ⟨g4, o4, none⟩) ne ce (ke2 q2.tab) :: RepA A q2 :: row O 0 o.cells :: [])) => run_ldP (t := 3) (by kernel_rfl) (entAc s.h)
              have fcl := fun s : Cls (fun w' => St W w' (row X 0 e.cells :: OwnS 9 (some ⟨g4, o4, none⟩) ne ce (ke2 q2.tab) :: RepA A q2 :: row O 0 o.cells :: [])) => (repLd (St.pick 2 s.h)).1
              have fde := fun s : Cls (fun w' => St W w' (row X 0 e.cells :: OwnS 9 (some ⟨g4, o4, none⟩) ne ce (ke2 q2.tab) :: RepA A q2 :: row O 0 o.cells :: [])) => (HDD.out ▸ (enL s.h).2.2.1 : (loadG 4 (.pointer (some ⟨X, 2, none⟩))).run Tryz.prog s.w = .ok (.bool true) s.w)
              have ft1 := fun s : Cls (fun w' => St W w' (row X 0 e.cells :: OwnS 9 (some ⟨g4, o4, none⟩) ne ce (ke2 q2.tab) :: RepA A q2 :: row O 0 o.cells :: [])) => run_ldP (t := 3) (by kernel_rfl) (optRow (St.pick 3 s.h)).2.2.2.1
              have fag := fun s : Cls (fun w' => St W w' (row X 0 e.cells :: OwnS 9 (some ⟨g4, o4, none⟩) ne ce (ke2 q2.tab) :: RepA A q2 :: row O 0 o.cells :: [])) => (enL s.h).2.2.2.2.2.2.1
              have fA := fun s : Cls (fun w' => St W w' (row X 0 e.cells :: OwnS 9 (some ⟨g4, o4, none⟩) ne ce (ke2 q2.tab) :: RepA A q2 :: row O 0 o.cells :: [])) => (enL s.h).2.2.2.2.2.2.2
              refine wp_region_class (fun w' => St W w' (row X 0 e.cells :: OwnS 9 (some ⟨g4, o4, none⟩) ne ce (ke2 q2.tab) :: RepA A q2 :: row O 0 o.cells :: [])) (by kernel_rfl) (by kernel_rfl) s3.drew ?_
              try dsimp only [List.append]
              repeat (go_big_quiet_step ((rename_i s; first
                | (go_at_call 36; refine now_c (St.pick 1 (RepA.open.1 (St.pick 2 s.h))) ?_; rw [HCN.out]; exact Cls.end _ s.h)
                | (go_at_call 20; refine enTo_c (e := e) s.h ?_; rintro w4 s4; exact Cls.end _ s4)
                | (go_at_call 18; refine rcheckE_c (e := e) s.h ?_; rintro w4 s4; rw [HRC.out]; exact Cls.end _ s4))))
              clear hN6 fac fcl fde ft1 fag fA
              refine wpQuiet_nil ?_
              rintro ⟨w6, s6⟩
              dsimp only
              go_wp2_with fail
              go_roundw
              case rel => exact ⟨j + 1, by omega, by go_num, s6.drop⟩
              case measure => simp [intOf]; omega
        · have hje : j = ne := by omega
          subst hje
          have hcm : (q2.tab.length : Int) ≤ o.nodes * o.quota := by
            have := HI2.out.ok.len
            unfold RepV.room at this
            rw [HI2.out.c.nodes, HI2.out.c.quota, HC.out.1, HC.out.2.1] at this
            exact this
          obtain ⟨zz, hzz⟩ : ∃ z, o.nodes * o.quota = z := ⟨_, rfl⟩
          rw [hzz] at hcm
          have HZZ := hid hzz
          have d9 : decide ((q2.tab.length : Int) > zz) = false := decide_eq_false (by omega)
          clear hzz hcm
          have sR0 : St W _ (RepA A q2 :: row O 0 o.cells :: []) := sw.drop
          go_upto_region 28 with (fail)
          have u := sR0.drew
          have gA := run_loadG agg_ropt (vs := o.cells) rfl (St.pick 1 u).rowAll
          go_region_held3 (fun w' => (loadG 51 (.pointer (some ⟨O, 0, none⟩))).run Tryz.prog w' = .ok (.agg o.cells.toArray) w')
            (first
              | with_reducible exact gC
              | with_reducible exact gB
              | with_reducible exact gA)
            (first
              | (go_at_call 23; first
                  | (refine entries_c HI2.out.ok sM ?_; rintro a9 n9 c9 w9 hn9 s9; subst hn9; have gC := run_loadG agg_ropt (vs := o.cells) rfl (St.pick 2 s9).rowAll)
                  | (refine entries_c HI2.out.ok u ?_; rintro a8 n8 c8 w8 hn8 s8; subst hn8; have gB := run_loadG agg_ropt (vs := o.cells) rfl (St.pick 2 s8).rowAll))
              | (go_at_call 31; first
                  | (refine rroom_c HCK.out.1 HCK.out.2.1 s8 ?_; rintro w9 s9; rw [HZZ.out]; have gC := run_loadG agg_ropt (vs := o.cells) rfl (St.pick 2 s9).rowAll)
                  | (refine rroom_c HCK.out.1 HCK.out.2.1 u ?_; rintro wM sM; rw [HZZ.out]; have gB := run_loadG agg_ropt (vs := o.cells) rfl (St.pick 1 sM).rowAll)))
          all_goals
            go_wp2_with fail
            go_roundw
            case rel => exact ⟨i + 1, q2, by omega, by go_num, HI2, s9.drop⟩
            case measure => simp [intOf]; omega
    · have hie : i = n := by omega
      subst hie
      go_wp2_with fail
      exact HK.out _ sr.below
end
end Go.Proofs.YtggbeedghblakaaGreatDoor
