/- The law's play: acts are done with a replica, opened anew where they say so. -/
import Derived.Test.YtggbeedghblakaaGreatDoorReos
import Derived.Test.YtggbeedghblakaaGreatDoorSpkR
import Derived.Test.YtggbeedghblakaaGreatDoorTiks
import Derived.Test.YtggbeedghblakaaGreatDoorDels
import Derived.Test.YtggbeedghblakaaGreatDoorLib
import Derived.Deep.RegionLaw
import Derived.Deep.DeepCutAuto
import Derived.Deep.CutBlock
namespace Go.Proofs.YtggbeedghblakaaGreatDoor
open Go.RowKit Go.Qd RepV

/-- What holds of a replica that was played with. -/
def PInv (o : OptV) (q : RepV) : Prop := (∃ es, BInv q es) ∧ OfOpt o 0 q
theorem PInv.ok {o : OptV} {q : RepV} (h : PInv o q) : RepOK q := let ⟨_, b⟩ := h.1; b.c.ok
theorem PInv.core {o : OptV} {q : RepV} (h : PInv o q) : Core q := let ⟨_, b⟩ := h.1; b.c
theorem PInv.step {o : OptV} {q q2 : RepV} (h : PInv o q) (hb : ∀ es, BInv q es → ∃ es2, BInv q2 es2) (hc : SameC q q2) : PInv o q2 := by
  obtain ⟨⟨es, b⟩, h1, h2, h3, h4, h5, h6⟩ := h
  exact ⟨hb es b, hc.nodes.trans h1, hc.quota.trans h2, hc.retain.trans h3, hc.t1.trans h4, hc.t2.trans h5, hc.site.trans h6⟩
theorem PInv.put {o : OptV} {q : RepV} (h : PInv o q) (k v : ByteArray) : PInv o (q.put k v) := h.step (fun es b => by
  by_cases hw : q.putW k v = 0
  · exact ⟨_, ((b.put k v).1 hw).2.1⟩
  · exact ⟨_, (b.put k v).2.1 hw⟩) (SameC.put _ _ _)
theorem PInv.del {o : OptV} {q : RepV} (h : PInv o q) (k : ByteArray) (kp : Int) : PInv o (q.del k kp) := h.step (fun es b => by
  by_cases hw : q.delW k kp = 0
  · exact ⟨_, ((b.del k kp).1 hw).2.1⟩
  · exact ⟨_, (b.del k kp).2.1 hw⟩) (SameC.del _ _ _)
theorem PInv.merge {o : OptV} {q : RepV} (h : PInv o q) (e : EnV) : PInv o (q.merge e) := h.step (fun es b => by
  obtain ⟨m0, m1, m2, _, h0 | h1 | h2⟩ := b.merge e
  · exact ⟨_, m0 h0⟩
  · exact ⟨_, (m1 h1).2.2.1⟩
  · exact ⟨_, (m2 h2).2.2.1⟩) (SameC.merge _ _)
theorem PInv.tick {o : OptV} {q : RepV} (h : PInv o q) (h2 : o.t2 ≤ 2147483647) : PInv o q.tick := h.step (fun es b => ⟨_, b.tick (by rw [h.2.2.2.2.2.1]; exact h2)⟩) (SameC.tick h.ok)

theorem agg_ropt3 : AggT Tryz.prog 51 5 := ⟨⟨_, Tryz.underlying51, rfl⟩, by kernel_rfl⟩

section
attribute [local go_sem ↓] execOp_ldAny
variable {W w : World} {R : List HP} {post : Ending → World → Prop}
set_option maxRecDepth 100000 in
set_option maxHeartbeats 16000000 in
theorem play_c {a : Option Addr} {n c : Nat} {l : List RAct} {o : OptV} (hf : FirstW W) (hc : o.check = 0) (rd : Rds W R 12 a n c (ractC l)) (hbig : n ≤ 9223372036854775807) (st : St W w R)
    (K : ∀ A q w', Hid (PInv o q) → St W w' (RepA A q :: R) → post (.returned (.pointer (some ⟨A.p, 0, none⟩))) w') :
    Calls Tryz.prog 37 #[.agg o.cells.toArray, .slice a n c] w post := by
  have HK := hid K; clear K
  have HF := hid hf; have HRD := hid rd
  have HN : Hid (l.length = n) := hid (ractC_ln (rd _ st))
  clear hf rd
  go_enter Tryz.func37, Tryz.ntmps37
  go_wp2_with (first
    | (refine wpl_boxA (vs := o.cells) rfl (.tmp 0) rfl rfl st ?_; rintro O w1 s4)
    | (go_at_call 14; refine dnew_c s4 ?_; rintro d w5 s5; have lO2 := run_loadG agg_ropt3 (vs := o.cells) rfl (St.pick 1 s5).rowAll)
    | (go_at_call 26; refine of12_c s5 ?_; rintro w6 s6)
    | (go_at_call 13; refine open_g (o := o) (D' := DskV.new) (es := []) hc (by have := (check_ok hc).1; omega) DskOK.new (jopens0 DskOK.new rfl rfl) (fun _ h => by cases h) s6 ?_ (fun _ h => by cases h); rintro q A w7 hq hAd s7; have hq2 := Option.some.inj hq; subst hq2; clear hq))
  have hck := check_ok hc
  obtain ⟨q0, hq0⟩ : ∃ q0, RepV.fresh o.nodes o.quota o.retain o.t1 o.t2 0 DskV.new = q0 := ⟨_, rfl⟩
  have hI0 : PInv o q0 := by
    have h1 : RepOK q0 := by rw [← hq0]; exact RepOK.fresh hck.1 hck.2.1 (by omega) hck.2.2.2.1 DskOK.new
    refine ⟨⟨[], ⟨Core.fresh h1 (by rw [← hq0]; rfl) (by rw [← hq0]; rfl) (by rw [← hq0]; rfl), by rw [← hq0]; exact LogD.new, fun _ h => (by cases h), fun p hp => by rw [← hq0] at hp; cases hp⟩⟩, ?_⟩
    rw [← hq0]; exact ⟨rfl, rfl, rfl, rfl, rfl, rfl⟩
  rw [hq0] at s7
  have HCK := hid hck; have HI0 := hid hI0; have HA0 := hid hAd; have HCC := hid hc
  clear hc hq0 hck hI0 hAd s4 s5 s6 lO2
  go_loopw [6, 24] (fun rr ii wr => ∃ (i : Nat) (A : RAd) (q : RepV), i ≤ n ∧ rr = .pointer (some ⟨A.p, 0, none⟩) ∧ Hid (A.d = d) ∧ ii = .int .i64 i ∧ Hid (PInv o q) ∧ St W wr (RepA A q :: row O 0 o.cells :: R)) (fun _ ii _ => n - (intOf ii).toNat)
  case atStart => exact ⟨0, A, q0, Nat.zero_le _, rfl, HA0, rfl, HI0, s7⟩
  clear s7 HA0
  case round =>
    obtain ⟨i, A, q, hi, rfl, HA, rfl, HQ, sr⟩ := hrel
    by_cases hlt : i < n
    · have hi2 : (i : Int) < (n : Int) := by omega
      have hiA : i < l.length := by rw [HN.out]; exact hlt
      have rdr := HRD.out.cons.cons _ sr
      obtain ⟨g3, o3, rfl⟩ := rdr.addr (by omega)
      have ci := ract_ld rdr hiA
      obtain ⟨x, hx⟩ : ∃ x, l[i] = x := ⟨_, rfl⟩
      rw [hx] at ci
      clear hx rdr hiA
      go_upto_region 8 with (first
        | (refine wpl_allocA rfl rfl zero_ra sr ?_; rintro T w2 s2)
        | (refine wpl_storeA (vs := x.cells) rfl (.tmp 9) (.tmp 27) (by rfl) agg_ra (by rfl) (by rfl) rfl (ract_one _) s2 rfl ?_; rintro w3 s5))
      obtain ⟨l0, l1, l2, l3⟩ := raLd s5
      clear s2 ci
      obtain ⟨kd, hkd⟩ : ∃ kd, x.kind = kd := ⟨_, rfl⟩
      rw [hkd] at l0
      clear hkd
      by_cases k0 : kd = 0
      · subst k0
        go_wp2_with (go_at_call 27; refine rput_c HQ.out.ok HF.out (St.pick 1 s5) ?_; rintro w6 s6)
        go_roundw
        case rel => exact ⟨i + 1, A, _, by omega, rfl, HA, by go_num, hid (HQ.out.put _ _), (s6.pick 1).drop⟩
        case measure => simp [intOf]; omega
      by_cases k1 : kd = 1
      · subst k1
        go_wp2_with (go_at_call 29; refine rdel_c HQ.out.ok (by have := HQ.out.2; have := HCK.out.1; unfold OfOpt at *; omega) (by have := HQ.out.2; have := HCK.out.2.2.1; unfold OfOpt at *; omega) (by have := HQ.out.2; have := HCK.out.1; unfold OfOpt at *; omega) HF.out (St.pick 1 s5) ?_; rintro kp w6 s6)
        go_roundw
        case rel => exact ⟨i + 1, A, _, by omega, rfl, HA, by go_num, hid (HQ.out.del _ _), (s6.pick 1).drop⟩
        case measure => simp [intOf]; omega
      by_cases k2 : kd = 2
      · subst k2
        go_wp2_with (first
          | (go_at_call 17; refine enOf_c (e := x.e) s5 ?_; rintro w6 s6)
          | (go_at_call 16; refine merge_c (e := x.e) HQ.out.ok (St.pick 1 s6) ?_; rintro w8 s8))
        go_roundw
        case rel => exact ⟨i + 1, A, _, by omega, rfl, HA, by go_num, hid (HQ.out.merge _), (s8.pick 1).drop⟩
        case measure => simp [intOf]; omega
      by_cases k3 : kd = 3
      · subst k3
        go_wp2_with (go_at_call 30; refine rtick_c HQ.out.ok (fun p hp => (HQ.out.core.g p hp).1) (fun p hp => (HQ.out.core.gr p hp).1) (St.pick 1 s5) ?_; rintro aa na ca w6 s6)
        go_roundw
        case rel => exact ⟨i + 1, A, _, by omega, rfl, HA, by go_num, hid (HQ.out.tick (by have := HCK.out.2.2.2.2.1; omega)), ((s6.drop).pick 1).drop⟩
        case measure => simp [intOf]; omega
      by_cases k4 : kd = 4
      · subst k4
        obtain ⟨⟨es, b1⟩, b2⟩ := HQ.out
        have HB1 := hid b1; have HB2 := hid b2
        clear b1 b2
        have lO := run_loadG agg_ropt3 (vs := o.cells) rfl (St.pick 2 s5).rowAll
        go_wp2_with (first
          | (go_at_call 26; refine of12_c s5 ?_; rintro w6 s6)
          | (go_at_call 13; refine reopen_c (o := o) HA.out HB1.out HCC.out HB2.out (by have := HCK.out.1; omega) (St.pick 1 s6) (fun q2 A2 w7 hq hd s7 => ?_) (fun w7 hno s7 => ?_); have HQQ := hid hq; have HD2 := hid hd; clear hq hd; rotate_left; clear hno; rotate_left))
        · have HI2 : Hid (PInv o q2) := hid (by
            obtain ⟨j1, j2⟩ := HB1.out.reopen.1 _ HQQ.out
            have h := HB2.out
            unfold OfOpt at h
            exact ⟨⟨es, j1⟩, j2.nodes.trans h.1, j2.quota.trans h.2.1, j2.retain.trans h.2.2.1, j2.t1.trans h.2.2.2.1, j2.t2.trans h.2.2.2.2.1, j2.site.trans h.2.2.2.2.2⟩)
          go_roundw
          case rel => exact ⟨i + 1, A2, q2, by omega, rfl, HD2, by go_num, HI2, (s7.pick 1).drop⟩
          case measure => simp [intOf]; omega
        · go_roundw
          case rel => exact ⟨i + 1, A, q, by omega, rfl, HA, by go_num, HQ, (s7.pick 1).drop⟩
          case measure => simp [intOf]; omega
      have e0 : (kd == 0) = false := by simpa using k0
      have e1 : (kd == 1) = false := by simpa using k1
      have e2 : (kd == 2) = false := by simpa using k2
      have e3 : (kd == 3) = false := by simpa using k3
      have e4 : (kd == 4) = false := by simpa using k4
      go_wp2_with fail
      go_roundw
      case rel => exact ⟨i + 1, A, q, by omega, rfl, HA, by go_num, HQ, s5.drop⟩
      case measure => simp [intOf]; omega
    · have hie : i = n := by omega
      subst hie
      go_wp2_with fail
      exact HK.out _ _ _ HQ ((sr.pick 1).drop)
end
end Go.Proofs.YtggbeedghblakaaGreatDoor
