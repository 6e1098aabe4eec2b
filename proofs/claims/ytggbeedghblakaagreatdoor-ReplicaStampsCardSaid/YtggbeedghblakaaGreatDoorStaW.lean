/- No stamp twice: the law's walk. Printed by mkStaW.py. -/
import Derived.Test.YtggbeedghblakaaGreatDoorReos
import Derived.Test.YtggbeedghblakaaGreatDoorSpkR
import Derived.Test.YtggbeedghblakaaGreatDoorTiks
import Derived.Test.YtggbeedghblakaaGreatDoorDels
import Derived.Test.YtggbeedghblakaaGreatDoorLaws
import Derived.Test.YtggbeedghblakaaGreatDoorLib
import Derived.Deep.RegionLaw
import Derived.Deep.DeepCutAuto
import Derived.Deep.CutBlock
namespace Go.Proofs.YtggbeedghblakaaGreatDoor
open Go.RowKit Go.Qd RepV

theorem agg_ropt2 : AggT Tryz.prog 51 5 := ⟨⟨_, Tryz.underlying51, rfl⟩, by kernel_rfl⟩
theorem zero_st2 (w : World) : (zeroValue 37).run Tryz.prog w = .ok (.agg [Value.int .i64 0, .int .i64 0].toArray) w := by kernel_rfl
def neAG (x y : Operand) (a b : Value) : Sem Value := do eqGuard .neq 37 x y a b; Go.binOp .neq 37 a b
theorem execOp_neA (ρ : Operand → Value) (dst : Option Tmp) (x y : Operand) (r : TypeId) (ty : TypeId) (pos : String) (after : Array Edge) (guard : Option (Nat × Bool)) :
    execOp ρ { dst, op := .binOp .neq 37 x y r, type := ty, pos, after, guard } = (do pure (.value (← neAG x y (ρ x) (ρ y)))) := by simp [execOp, neAG]
theorem run_neA (x y : Operand) (a b c d : Int) (w : World) : (neAG x y (.agg #[.int .i64 a, .int .i64 b]) (.agg #[.int .i64 c, .int .i64 d])).run Tryz.prog w = .ok (.bool (!eq2B a b c d)) w := by
  unfold neAG eq2B
  go_simp
  by_cases h1 : a = c
  · by_cases h2 : b = d
    · simp [h1, h2]
    · simp [h1, h2]
  · simp [h1]

section
attribute [local go_sem ↓] execOp_ldAny
variable {W : World} {post : Ending → World → Prop}

/-- A stamp in its box, an act's entry's key. -/
theorem stLd {w : World} {R : List HP} {T : Nat} {c s : Int} (st : St W w (row T 0 [.int .i64 c, .int .i64 s] :: R)) : (loadG 37 (.pointer (some ⟨T, 0, none⟩))).run Tryz.prog w = .ok (.agg [Value.int .i64 c, .int .i64 s].toArray) w ∧
    (loadG 3 (.pointer (some ⟨T, 0, none⟩))).run Tryz.prog w = .ok (.int .i64 c) w ∧ (loadG 3 (.pointer (some ⟨T, 1, none⟩))).run Tryz.prog w = .ok (.int .i64 s) w := by
  have f : ∀ i v, [Value.int .i64 c, .int .i64 s][i]? = some v → w.cell? ⟨T, i, none⟩ = some v := fun i v hv => by have := st.rowCell hv; rwa [Nat.zero_add] at this
  exact ⟨run_loadG agg_st (vs := [.int .i64 c, .int .i64 s]) rfl st.rowAll, run_ldP (by kernel_rfl) (f 0 _ rfl), run_ldP (by kernel_rfl) (f 1 _ rfl)⟩
theorem raKey {w : World} {R : List HP} {T : Nat} {x : RAct} (s : St W w (row T 0 x.cells :: R)) : (loadG 9 (.pointer (some ⟨T, 3, none⟩))).run Tryz.prog w = .ok (.string x.e.key) w := by
  have f : w.cell? ⟨T, 3, none⟩ = some (.string x.e.key) := by have := s.rowCell (i := 3) (v := .string x.e.key) rfl; rwa [Nat.zero_add] at this
  exact run_ldP (by kernel_rfl) f
theorem rocheck4_c {w : World} {R : List HP} {o : OptV} (st : St W w R) (K1 : ∀ w', St W w' R → post (.returned (.int .i64 14)) w') (K0 : o.check = 0 → ∀ w', St W w' R → post (.returned (.int .i64 0)) w') : Calls Tryz.prog 25 #[.agg o.cells.toArray] w post := rocheck_c st K0 K1

attribute [local go_sem ↓] execOp_neA
attribute [local go_sem] run_neA
set_option maxRecDepth 100000 in
set_option maxHeartbeats 16000000 in
theorem stamps_c {a : Option Addr} {n c : Nat} {l : List RAct} {o : OptV} (hf : FirstW W) (rd : RdS W 12 a n c (ractC l))
    (K : ∀ w', Below W.heap.size W w' → post (.returned (.bool true)) w') :
    Calls Tryz.prog 4 #[.agg o.cells.toArray, .slice a n c] W post := by
  have HK := hid K; clear K
  have HF := hid hf; have HRD := hid rd
  have HN : Hid (l.length = n) := hid (ractC_ln rd)
  have hbig := rd.big
  have HBIG := hid hbig
  clear hf rd
  go_enter Tryz.func4, Tryz.ntmps4
  go_wp2_with (first
    | (refine wpl_boxA (vs := o.cells) rfl (.tmp 0) rfl rfl (St.init W) ?_; rintro O w1 s1)
    | (go_at_call 12; have gg := s4; refine speaks_c HF.out s4 ?_; rintro w9 s9)
    | (go_at_call 12; have gg := s3; refine speaks_c HF.out s3 ?_; rintro w9 s9)
    | (go_at_call 12; refine speaks_c HF.out s1 ?_; rintro w2 s2)
    | (go_at_call 24; refine few12_c (HRD.out.rds _) HBIG.out s2 ?_; rintro (_ | _) w3 hb s3; all_goals (have HFW := hid hb; clear hb; have lO := run_loadG agg_ropt2 (vs := o.cells) rfl s3.rowAll))
    | (go_at_call 25; refine rocheck4_c s3 (fun w4 s4 => ?_) (fun hc w4 s4 => ?_))
    | (go_at_call 14; refine dnew_c s4 ?_; rintro d w5 s5; have lO2 := run_loadG agg_ropt2 (vs := o.cells) rfl (St.pick 1 s5).rowAll)
    | (go_at_call 26; refine of12_c s5 ?_; rintro w6 s6)
    | (go_at_call 13; refine open_g (o := o) (D' := DskV.new) (es := []) hc (by have := (check_ok hc).1; omega) DskOK.new (jopens0 DskOK.new rfl rfl) (fun _ h => by cases h) s6 ?_ (fun _ h => by cases h); rintro q A w7 hq hAd s7; have hq2 := Option.some.inj hq; subst hq2; clear hq))
  · exact HK.out _ s9.below
  · exact HK.out _ s9.below
  have hck := check_ok hc
  have hn50 : n ≤ 50 := by have := HFW.out (by first | rfl | trivial); omega
  obtain ⟨q0, hq0⟩ : ∃ q0, RepV.fresh o.nodes o.quota o.retain o.t1 o.t2 0 DskV.new = q0 := ⟨_, rfl⟩
  have HC : Hid (OfOpt o 0 q0) := hid (by rw [← hq0]; exact ⟨rfl, rfl, rfl, rfl, rfl, rfl⟩)
  have hI0 : SInv q0 q0 0 [] := by
    have h1 : RepOK q0 := by rw [← hq0]; exact RepOK.fresh hck.1 hck.2.1 (by omega) hck.2.2.2.1 DskOK.new
    refine ⟨⟨[], ⟨Core.fresh h1 (by rw [← hq0]; rfl) (by rw [← hq0]; rfl) (by rw [← hq0]; rfl), by rw [← hq0]; exact LogD.new, fun _ h => (by cases h), fun p hp => by rw [← hq0] at hp; cases hp⟩, .inl rfl, fun _ h => (by cases h)⟩, Int.le_refl _, by rw [← hq0]; exact Int.le_refl _, SameC.refl _⟩
  rw [hq0] at s7
  have HCK := hid hck; have HI0 := hid hI0; have HA0 := hid hAd; have HCC := hid hc
  have s8 : St W w7 (RepA A q0 :: OwnS 1 none 0 0 (strC []) :: row O 0 o.cells :: []) := (OwnS.none0 s7).pick 1
  clear hc hq0 hck hI0 hAd s1 s2 s3 s4 s5 s6 s7 lO lO2 HFW
  go_loopw [6, 8, 9, 51] (fun rr ll kk ii wr => ∃ (i : Nat) (A : RAd) (q : RepV) (last : Int) (ks : List ByteArray) (ka : Option Addr) (kn kc : Nat), i ≤ n ∧ rr = .pointer (some ⟨A.p, 0, none⟩) ∧ Hid (A.d = d) ∧ ll = .int .i64 last ∧ kk = .slice ka kn kc ∧ ii = .int .i64 i ∧
    Hid (SInv q0 q last ks) ∧ Hid (kn = ks.length ∧ kn ≤ i) ∧ St W wr (RepA A q :: OwnS 1 ka kn kc (strC ks) :: row O 0 o.cells :: [])) (fun _ _ _ ii _ => n - (intOf ii).toNat)
  case atStart => exact ⟨0, A, q0, 0, [], none, 0, 0, Nat.zero_le _, rfl, HA0, rfl, rfl, rfl, HI0, hid ⟨rfl, Nat.le_refl _⟩, s8⟩
  clear s8 HA0
  case round =>
    obtain ⟨i, A, q, last, ks, ka, kn, kc, hi, rfl, HA, rfl, rfl, rfl, HQ, HKN, sr⟩ := hrel
    by_cases hlt : i < n
    · have hi2 : (i : Int) < (n : Int) := by omega
      have hiA : i < l.length := by rw [HN.out]; exact hlt
      have rdr := HRD.out.st sr
      obtain ⟨g3, o3, rfl⟩ := rdr.addr (by omega)
      have ci := ract_ld rdr hiA
      obtain ⟨x, hx⟩ : ∃ x, l[i] = x := ⟨_, rfl⟩
      rw [hx] at ci
      have hkm : kn ≤ 1000000 := by have := HKN.out; omega
      clear hx rdr hiA
      go_upto_region 13 with (first
        | (refine wpl_allocA rfl rfl zero_ra sr ?_; rintro T w2 s2)
        | (refine wpl_storeA (vs := x.cells) rfl (.tmp 11) (.tmp 54) (by rfl) agg_ra (by rfl) (by rfl) rfl (ract_one _) s2 rfl ?_; rintro w3 s3)
        | (refine wpl_allocA rfl rfl zero_st2 s3 ?_; rintro S w4 s5))
      obtain ⟨l0, l1, l2, l3⟩ := raLd (St.pick 1 s5)
      have lk := raKey (St.pick 1 s5)
      clear s3 s2 ci
      obtain ⟨kd, hkd⟩ : ∃ kd, x.kind = kd := ⟨_, rfl⟩
      rw [hkd] at l0
      clear hkd
      have HQC : Hid (OfOpt o 0 q ∧ q.room = o.nodes * o.quota) := hid (by
        have h1 := HQ.out.c; have h2 := HC.out
        refine ⟨⟨h1.nodes.trans h2.1, h1.quota.trans h2.2.1, h1.retain.trans h2.2.2.1, h1.t1.trans h2.2.2.2.1, h1.t2.trans h2.2.2.2.2.1, h1.site.trans h2.2.2.2.2.2⟩, ?_⟩
        unfold RepV.room; rw [h1.nodes, h1.quota, h2.1, h2.2.1])
      go_upto_block 2 with (fail)
      go_cut [6, 9] (fun rr kk wx => ∃ (A2 : RAd) (q2 : RepV) (ks2 : List ByteArray) (ka2 : Option Addr) (kn2 kc2 : Nat) (cc ss : Int), rr = .pointer (some ⟨A2.p, 0, none⟩) ∧ Hid (A2.d = d) ∧ kk = .slice ka2 kn2 kc2 ∧ Hid (kn2 = ks2.length ∧ kn2 ≤ i + 1) ∧
        Hid ((cc = 0 ∧ ss = 0 ∧ SInv q0 q2 last ks2) ∨ (ss = 0 ∧ last < cc ∧ 1 ≤ cc ∧ cc ≤ 4294967295 ∧ SInv q0 q2 cc ks2)) ∧ St W wx (row S 0 [.int .i64 cc, .int .i64 ss] :: RepA A2 q2 :: OwnS 1 ka2 kn2 kc2 (strC ks2) :: row O 0 o.cells :: []))
      case first =>
        by_cases k0 : kd = 0
        · subst k0
          obtain ⟨q2, hq2⟩ : ∃ q2, q.put x.key x.val = q2 := ⟨_, rfl⟩
          obtain ⟨z, hz⟩ : ∃ z, q.putW x.key x.val = z := ⟨_, rfl⟩
          obtain ⟨e, he⟩ : ∃ e, q.putX x.key x.val = e := ⟨_, rfl⟩
          have HQ2 := hid hq2; have HZ := hid hz; have HE := hid he
          clear hq2 hz he
          cases hz0 : (z == 0) with
          | false =>
            have HI2 : Hid (SInv q0 q2 last ks) := hid (by rw [← HQ2.out]; exact HQ.out.put_no (by rw [HZ.out]; simpa using hz0))
            go_wp2_with (first
              | (go_at_call 27; refine rput_c HQ.out.ok HF.out (St.pick 2 s5) ?_; rintro w6 s6; rw [HQ2.out] at s6; rw [HZ.out, HE.out])
              | (refine wpl_allocA rfl rfl zero_en s6 ?_; rintro U w8 s8)
              | (refine wpl_storeA (vs := e.cells) rfl (.tmp 13) (.tmp 66) (by rfl) agg_en (by rfl) (by rfl) rfl (env_one _) s8 rfl ?_; rintro w9 s9))
            go_meet
            case rel => exact ⟨A, q2, ks, ka, kn, kc, 0, 0, rfl, HA, rfl, hid ⟨HKN.out.1, by have := HKN.out.2; omega⟩, hid (.inl ⟨rfl, rfl, HI2.out⟩), s9.sel [2, 1, 2, 2]⟩
          | true =>
            have hzz : q.putW x.key x.val = 0 := by rw [HZ.out]; simpa using hz0
            obtain ⟨i1, i2, i3, i4⟩ := HQ.out.put_ok hzz
            have hs0 : q.site = 0 := HQC.out.1.2.2.2.2.2
            have hes : e.sc = q.cnt + 1 ∧ e.ss = 0 := by rw [← HE.out, i2]; exact ⟨rfl, hs0⟩
            rw [HQ2.out] at i1
            have HI2 := hid i1; have HES := hid hes; have HI34 := hid (And.intro i3 i4)
            clear i1 i2 i3 i4 hes hs0 hzz
            go_wp2_with (first
              | (go_at_call 27; refine rput_c HQ.out.ok HF.out (St.pick 2 s5) ?_; rintro w6 s6; rw [HQ2.out] at s6; rw [HZ.out, HE.out])
              | (refine wpl_allocA rfl rfl zero_en s6 ?_; rintro U w8 s8)
              | (refine wpl_storeA (vs := e.cells) rfl (.tmp 13) (.tmp 66) (by rfl) agg_en (by rfl) (by rfl) rfl (env_one _) s8 rfl ?_; rintro w9 s9; obtain ⟨c0, c1, c2, c3, c4, c5, c6, c7⟩ := enL s9)
              | (refine wpl_storeA (vs := [.int .i64 e.sc, .int .i64 e.ss]) rfl (.tmp 12) (.tmp 71) (by rfl) agg_st (by rfl) (by rfl) rfl (st_one _ _) (St.pick 2 s9) rfl ?_; rintro wA sA; obtain ⟨j0, j1, j2, j3⟩ := raLd (St.pick 3 sA))
              | (go_at_call 28; refine noted_c hkm (St.pick 4 sA) ?_; rintro kb nb cb wB hnb sB; have HNB := hid hnb; clear hnb))
            go_meet
            case rel =>
              obtain ⟨e1, e2⟩ := HES.out
              rw [e1, e2] at sB
              refine ⟨A, q2, noteL ks x.key, kb, nb, cb, q.cnt + 1, 0, rfl, HA, rfl, hid ⟨HNB.out, ?_⟩, hid (.inr ⟨rfl, HI34.out.1, by have := HQ.out.ok.cnt; omega, HI34.out.2, HI2.out⟩), sB.sel [1, 2, 0, 2]⟩
              rw [HNB.out]; have := HKN.out; unfold noteL; split <;> simp <;> omega
        by_cases k1 : kd = 1
        · subst k1
          go_upto_region 21 with (first
            | (go_at_call 29; refine rdel_c HQ.out.ok (by have := HQC.out.1; have := HCK.out.1; unfold OfOpt at *; omega) (by have := HQC.out.1; have := HCK.out.2.2.1; unfold OfOpt at *; omega) (by have := HQC.out.1; have := HCK.out.1; unfold OfOpt at *; omega) HF.out (St.pick 2 s5) ?_; rintro kp w6 s6
               obtain ⟨q2, hq2⟩ : ∃ q2, q.del x.key kp = q2 := ⟨_, rfl⟩
               obtain ⟨z, hz⟩ : ∃ z, q.delW x.key kp = z := ⟨_, rfl⟩
               obtain ⟨e, he⟩ : ∃ e, q.delX x.key kp = e := ⟨_, rfl⟩
               rw [hq2] at s6; rw [hz, he]
               have HQ2 := hid hq2; have HZ := hid hz; have HE := hid he
               clear hq2 hz he)
            | (refine wpl_allocA rfl rfl zero_en s6 ?_; rintro U w8 s8)
            | (refine wpl_storeA (vs := e.cells) rfl (.tmp 15) (.tmp 83) (by rfl) agg_en (by rfl) (by rfl) rfl (env_one _) s8 rfl ?_; rintro w9 s9; obtain ⟨c0, c1, c2, c3, c4, c5, c6, c7⟩ := enL s9))
          cases hz0 : (z == 0) with
          | false =>
            have HI2 : Hid (SInv q0 q2 last ks) := hid (by rw [← HQ2.out]; exact HQ.out.del_no (by rw [HZ.out]; simpa using hz0))
            go_wp2_with fail
            go_meet
            case rel => exact ⟨A, q2, ks, ka, kn, kc, 0, 0, rfl, HA, rfl, hid ⟨HKN.out.1, by have := HKN.out.2; omega⟩, hid (.inl ⟨rfl, rfl, HI2.out⟩), s9.sel [2, 1, 2, 2]⟩
          | true =>
            have hzz : q.delW x.key kp = 0 := by rw [HZ.out]; simpa using hz0
            obtain ⟨i1, i2, i3, i4⟩ := HQ.out.del_ok hzz
            have hs0 : q.site = 0 := HQC.out.1.2.2.2.2.2
            have hes : e.sc = q.cnt + 1 ∧ e.ss = 0 := by rw [← HE.out, i2]; exact ⟨rfl, hs0⟩
            rw [HQ2.out] at i1
            have HI2 := hid i1; have HES := hid hes; have HI34 := hid (And.intro i3 i4)
            clear i1 i2 i3 i4 hes hs0 hzz
            go_wp2_with (refine wpl_storeA (vs := [.int .i64 e.sc, .int .i64 e.ss]) rfl (.tmp 12) (.tmp 88) (by rfl) agg_st (by rfl) (by rfl) rfl (st_one _ _) (St.pick 2 s9) rfl ?_; rintro wA sA)
            go_meet
            case rel =>
              obtain ⟨e1, e2⟩ := HES.out
              rw [e1, e2] at sA
              exact ⟨A, q2, ks, ka, kn, kc, q.cnt + 1, 0, rfl, HA, rfl, hid ⟨HKN.out.1, by have := HKN.out.2; omega⟩, hid (.inr ⟨rfl, HI34.out.1, by have := HQ.out.ok.cnt; omega, HI34.out.2, HI2.out⟩), sA.sel [0, 1, 2, 2]⟩
        by_cases k2 : kd = 2
        · subst k2
          obtain ⟨q2, hq2⟩ : ∃ q2, q.merge x.e = q2 := ⟨_, rfl⟩
          obtain ⟨z, hz⟩ : ∃ z, q.mergeW x.e = z := ⟨_, rfl⟩
          obtain ⟨kk, hkk⟩ : ∃ kk, q.mergeK x.e = kk := ⟨_, rfl⟩
          obtain ⟨e, he⟩ : ∃ e, q.mergeX x.e = e := ⟨_, rfl⟩
          have HQ2 := hid hq2; have HZ := hid hz; have HE := hid he; have HKK := hid hkk
          have HTR : Hid (kk = 0 ∨ kk = 1 ∨ kk = 2) := hid (by obtain ⟨es, b, _⟩ := HQ.out.es; rw [← HKK.out]; exact (b.merge x.e).2.2.2.2)
          clear hq2 hz he hkk
          go_upto_region 25 with (first
            | (go_at_call 17; refine enOf_c (e := x.e) s5 ?_; rintro w6 s6)
            | (go_at_call 16; refine merge_c (e := x.e) HQ.out.ok (St.pick 2 s6) ?_; rintro w7 s7; rw [HQ2.out] at s7; rw [HZ.out, HE.out, HKK.out])
            | (refine wpl_allocA rfl rfl zero_en s7 ?_; rintro U w8 s8)
            | (refine wpl_storeA (vs := e.cells) rfl (.tmp 18) (.tmp 98) (by rfl) agg_en (by rfl) (by rfl) rfl (env_one _) s8 rfl ?_; rintro w9 s9; obtain ⟨c0, c1, c2, c3, c4, c5, c6, c7⟩ := enL s9; have lk2 := raKey (St.pick 3 s9)))
          rcases HTR.out with h0 | h1 | h2
          · subst h0
            have HI2 : Hid (SInv q0 q2 last ks) := hid (by rw [← HQ2.out]; exact HQ.out.merge_old HKK.out)
            cases hz0 : (z == 0) with
            | false =>
              go_wp2_with fail
              go_meet
              case rel => exact ⟨A, q2, ks, ka, kn, kc, 0, 0, rfl, HA, rfl, hid ⟨HKN.out.1, by have := HKN.out.2; omega⟩, hid (.inl ⟨rfl, rfl, HI2.out⟩), s9.sel [2, 1, 2, 2]⟩
            | true =>
              go_wp2_with fail
              go_meet
              case rel => exact ⟨A, q2, ks, ka, kn, kc, 0, 0, rfl, HA, rfl, hid ⟨HKN.out.1, by have := HKN.out.2; omega⟩, hid (.inl ⟨rfl, rfl, HI2.out⟩), s9.sel [2, 1, 2, 2]⟩
          · subst h1
            obtain ⟨i1, i2, _⟩ := HQ.out.merge_taken HKK.out
            rw [HQ2.out] at i1
            have hz0 : z = 0 := by rw [← HZ.out]; exact i2
            subst hz0
            have HI2 := hid i1
            clear i1 i2
            go_wp2_with (go_at_call 28; refine noted_c hkm (St.pick 4 s9) ?_; rintro kb nb cb wB hnb sB; have HNB := hid hnb; clear hnb)
            go_meet
            case rel =>
              refine ⟨A, q2, noteL ks x.e.key, kb, nb, cb, 0, 0, rfl, HA, rfl, hid ⟨HNB.out, ?_⟩, hid (.inl ⟨rfl, rfl, HI2.out⟩), sB.sel [3, 2, 0, 2]⟩
              rw [HNB.out]; have := HKN.out; unfold noteL; split <;> simp <;> omega
          · subst h2
            obtain ⟨i1, i2, i3, i4⟩ := HQ.out.merge_woken HKK.out
            rw [HQ2.out, HE.out] at i1
            rw [HE.out] at i3 i4
            have hz0 : z = 0 := by rw [← HZ.out]; exact i2
            subst hz0
            have hs0 : q.site = 0 := HQC.out.1.2.2.2.2.2
            have haz : e.az = 0 := by rw [i3.2.2.2.2.2]; exact hs0
            have hle := i3.2.2.2.1
            have HI2 := hid i1; have HLL := hid (And.intro haz (And.intro i4 hle))
            clear i1 i2 i3 i4 haz hs0 hle
            go_wp2_with (first
              | (refine wpl_storeA (vs := [.int .i64 e.ac, .int .i64 e.az]) rfl (.tmp 12) (.tmp 107) (by rfl) agg_st (by rfl) (by rfl) rfl (st_one _ _) (St.pick 2 s9) rfl ?_; rintro wA sA; have lk3 := raKey (St.pick 3 sA))
              | (go_at_call 28; refine noted_c hkm (St.pick 4 sA) ?_; rintro kb nb cb wB hnb sB; have HNB := hid hnb; clear hnb))
            go_meet
            case rel =>
              rw [HLL.out.1] at sB
              refine ⟨A, q2, noteL ks x.e.key, kb, nb, cb, e.ac, 0, rfl, HA, rfl, hid ⟨HNB.out, ?_⟩, hid (.inr ⟨rfl, HLL.out.2.1, by have := HQ.out.l0; have := HLL.out.2.1; omega, HLL.out.2.2, HI2.out⟩), sB.sel [1, 2, 0, 2]⟩
              rw [HNB.out]; have := HKN.out; unfold noteL; split <;> simp <;> omega
        by_cases k3 : kd = 3
        · subst k3
          go_wp2_with (go_at_call 30; refine rtick_c HQ.out.ok (fun p hp => (HQ.out.g p hp).1) (fun p hp => (HQ.out.gr p hp).1) (St.pick 2 s5) ?_; rintro aa na ca w6 s6)
          go_meet
          case rel => exact ⟨A, q.tick, ks, ka, kn, kc, 0, 0, rfl, HA, rfl, hid ⟨HKN.out.1, by have := HKN.out.2; omega⟩, hid (.inl ⟨rfl, rfl, HQ.out.tick (by have := HQC.out.1; have := HCK.out.2.2.2.2.1; unfold OfOpt at *; omega)⟩), s6.sel [2, 1, 2, 2]⟩
        by_cases k4 : kd = 4
        · subst k4
          obtain ⟨es, b1, b2, b3⟩ := HQ.out.reopen
          have HB1 := hid b1; have HB2 := hid b2; have HB3 := hid b3
          clear b1 b2 b3
          have lO := run_loadG agg_ropt2 (vs := o.cells) rfl (St.pick 4 s5).rowAll
          have hrm := HQC.out.2
          obtain ⟨zz, hzz⟩ : ∃ z, o.nodes * o.quota = z := ⟨_, rfl⟩
          rw [hzz] at hrm
          have HZZ := hid hzz; have HRM := hid hrm
          clear hzz hrm
          go_wp2_with (first
            | (go_at_call 26; refine of12_c s5 ?_; rintro w6 s6)
            | (go_at_call 13; refine reopen_c (o := o) HA.out HB1.out HCC.out HQC.out.1 (by have := HCK.out.1; omega) (St.pick 2 s6) (fun q2 A2 w7 hq hd s7 => ?_) (fun w7 hno s7 => ?_); have HI2 := hid (HB2.out _ hq); have HD2 := hid hd; clear hq hd; rotate_left; have HNO := hid hno; have lO3 := run_loadG agg_ropt2 (vs := o.cells) rfl (St.pick 4 s7).rowAll; clear hno; rotate_left)
            | (go_at_call 31; refine rroom_c HCK.out.1 HCK.out.2.1 s7 ?_; rintro w8 s8; rw [HZZ.out]))
          · go_meet
            case rel => exact ⟨A2, q2, ks, ka, kn, kc, 0, 0, rfl, HD2, rfl, hid ⟨HKN.out.1, by have := HKN.out.2; omega⟩, hid (.inl ⟨rfl, rfl, HI2.out⟩), s7.sel [1, 0, 1, 1]⟩
          · have hlen := HB3.out HNO.out
            rw [HRM.out] at hlen
            have dl : decide ((kn : Int) > zz) = true := decide_eq_true (by have := HKN.out.1; omega)
            have hr := HK.out _ s8.below
            rw [← dl] at hr
            exact hr
        have e0 : (kd == 0) = false := by simpa using k0
        have e1 : (kd == 1) = false := by simpa using k1
        have e2 : (kd == 2) = false := by simpa using k2
        have e3 : (kd == 3) = false := by simpa using k3
        have e4 : (kd == 4) = false := by simpa using k4
        go_wp2_with fail
        go_meet
        case rel => exact ⟨A, q, ks, ka, kn, kc, 0, 0, rfl, HA, rfl, hid ⟨HKN.out.1, by have := HKN.out.2; omega⟩, hid (.inl ⟨rfl, rfl, HQ.out⟩), s5.sel [0, 1, 1, 1]⟩
      case rest =>
      obtain ⟨A2, q2, ks2, ka2, kn2, kc2, cc, ss, rfl, HA2, rfl, HKN2, HOR, s6⟩ := hcut
      obtain ⟨m0, m1, m2⟩ := stLd s6
      rcases HOR.out with ⟨h1, h2, h3⟩ | ⟨h1, h2, h3, h4, h5⟩
      · subst h1; subst h2
        have HI2 := hid h3
        have eb : eq2B 0 0 0 0 = true := by decide
        clear h3
        go_wp2_with (refine wpl_build (t := 37) rfl rfl (v := .agg [Value.int .i64 0, .int .i64 0].toArray) (by kernel_rfl) ?_)
        go_roundw
        case rel => exact ⟨i + 1, A2, q2, last, ks2, ka2, kn2, kc2, by omega, rfl, HA2, rfl, rfl, by go_num, HI2, HKN2, s6.drop⟩
        case measure => simp [intOf]; omega
      · subst h1
        have HI2 := hid h5
        have eb : eq2B cc 0 0 0 = false := by unfold eq2B; rw [decide_eq_false (by omega)]; rfl
        have dl : decide (cc ≤ last) = false := decide_eq_false (by omega)
        have HG : Hid (stampB cc 0 = true) := hid (by unfold stampB; rw [decide_eq_true h3, decide_eq_true h4]; rfl)
        clear h2 h3 h4 h5
        go_wp2_with (first
          | (refine wpl_build (t := 37) rfl rfl (v := .agg [Value.int .i64 0, .int .i64 0].toArray) (by kernel_rfl) ?_)
          | (refine wpl_build (t := 33) rfl rfl (v := .agg [Value.int .i64 cc, .int .i64 0].toArray) (by kernel_rfl) ?_)
          | (go_at_call 32; refine rstGood_c s6 ?_; rw [HG.out]; rintro w7 s7; obtain ⟨m0, m1, m2⟩ := stLd s7))
        go_roundw
        case rel => exact ⟨i + 1, A2, q2, cc, ks2, ka2, kn2, kc2, by omega, rfl, HA2, rfl, rfl, by go_num, HI2, HKN2, s7.drop⟩
        case measure => simp [intOf]; omega
    · have hie : i = n := by omega
      subst hie
      go_wp2_with fail
      exact HK.out _ sr.below
end
end Go.Proofs.YtggbeedghblakaaGreatDoor
