/- The example of the chapter on rumors. -/
import Derived.Test.YtojfjbbggpfijaaGreatDoorRumsO
import Derived.Test.YtojfjbbggpfijaaGreatDoorNews
import Derived.Test.YtojfjbbggpfijaaGreatDoorFirsts
namespace Go.Proofs.YtojfjbbggpfijaaGreatDoor
open Go.RowKit Go.Qd RepV

/-- A fresh replica. -/
theorem RepOK.fresh {nodes quota retain t1 t2 site : Int} {d : DskV} (hn : 1 ≤ nodes ∧ nodes ≤ 12) (hq : 1 ≤ quota ∧ quota ≤ 64) (hs : 0 ≤ site ∧ site < nodes) (ht : 0 ≤ t1 ∧ t1 ≤ 2147483647) (hd : DskOK d) : RepOK (RepV.fresh nodes quota retain t1 t2 site d) := by
  have hr : 0 ≤ nodes * quota ∧ nodes * quota ≤ 768 := by
    constructor
    · exact Int.mul_nonneg (by omega) (by omega)
    · have := Int.mul_le_mul (a := nodes) (b := quota) (c := 12) (d := 64) hn.2 hq.2 (by omega) (by omega)
      omega
  refine ⟨List.Pairwise.nil, fun _ h => (by cases h), ?_, ?_, List.Pairwise.nil, fun _ h => (by cases h), by simp [RepV.fresh], ⟨List.Pairwise.nil, fun _ h => (by cases h)⟩, rfl, fun k => rfl, List.Pairwise.nil, fun _ h => (by cases h), by simp [RepV.fresh], by simp [RepV.fresh], ?_, Int.le_refl _, hd, ht⟩
  · show ((0 : Nat) : Int) ≤ nodes * quota; omega
  · show nodes * quota ≤ 4000; omega
  · show 0 ≤ site ∧ site < 12; omega
/-- What a replica has to know of a configuration. -/
def optOf (c : List Int) : OptV := ⟨c.getD 0 0, c.getD 1 0, c.getD 2 0, c.getD 3 0, c.getD 4 0⟩
def cS : List Int := [2, 2, 1, 0, 0, 1, 1, 1, 0, 1, 1, 1, 1, 1, 1, 1, 0, 4, 1, 16]
def rS (site : Int) : RepV := RepV.fresh (optOf cS).nodes (optOf cS).quota (optOf cS).retain (optOf cS).t1 (optOf cS).t2 site DskV.new
def kS : ByteArray := ⟨#[107]⟩
def vS : ByteArray := ⟨#[118]⟩
def eS : EnV := putE kS vS 1 0
theorem cS_right : rightB cS = true := by kernel_rfl
theorem cS_check : (optOf cS).check = 0 := by kernel_rfl
theorem rS_putW : (rS 0).putW kS vS = 0 := by kernel_rfl
theorem rS_putX : (rS 0).putX kS vS = eS := by kernel_rfl
theorem rS_site : ((rS 0).put kS vS).site = 0 := by kernel_rfl
theorem eS_check : checkE eS = 0 := by kernel_rfl
theorem ech_good (a : Option Addr) (q : Nat) : goodX (echM a q) 15 [⟨1, 0, kS⟩] [] = true := by kernel_rfl
theorem rS_ok : RepOK (rS 0) := RepOK.fresh (by decide) (by decide) (by decide) (by decide) DskOK.new
section
variable {W w : World} {R : List HP} {post : Ending → World → Prop}
/-- A fresh mark is a slice of one. -/
theorem own1 {b : Nat} {k : MkV} (s : St W w (row b 0 k.cells.toArray.toList :: R)) : St W w (OwnS 3 (some ⟨b, 0, none⟩) 1 1 (mkC [k]) :: R) := by
  have e : mkC [k] = k.cells := by simp [mkC]
  refine OwnS.close (sp := []) ⟨by rw [e]; rfl, rfl, Nat.le_refl _, by unfold maxLen; decide, by simp, fun _ => ⟨_, _, rfl⟩, by rw [e]; exact mk_one k⟩ ?_
  rw [e, List.append_nil]
  exact s
set_option maxRecDepth 100000 in
set_option maxHeartbeats 4000000 in
theorem options_c {c : List Int} (hc : c.length = 20) (st : St W w R) (K : ∀ w', St W w' R → post (.returned (.agg (optOf c).cells.toArray)) w') : Calls Tryz.prog 28 #[.agg (ivs c).toArray] w post := by
  have HK := hid K; clear K
  obtain ⟨x0, x1, x2, x3, x4, x5, x6, x7, x8, x9, x10, x11, x12, x13, x14, x15, x16, x17, x18, x19, rfl⟩ := list20 hc
  clear hc
  go_enter Tryz.func28, Tryz.ntmps28
  go_wp2_with (first
    | (refine wpl_boxA (vs := ivs [x0, x1, x2, x3, x4, x5, x6, x7, x8, x9, x10, x11, x12, x13, x14, x15, x16, x17, x18, x19]) rfl (.tmp 0) rfl rfl st ?_; rintro T w0 s0)
    | (refine wpl_allocA (vs := [.int .i64 0, .int .i64 0, .int .i64 0, .int .i64 0, .int .i64 0]) rfl rfl (fun _ => by kernel_rfl) s0 ?_; rintro E w1 s1
       obtain ⟨k0, k1, k2, k3, k4, k5, k6, k7, k8, k9, k10, k11, k12, k13, k14, k15, k16, k17, k18, k19⟩ := cfgs (St.pick 1 s1))
    | (refine wpl_build rfl rfl (v := .agg (OptV.mk x0 x1 x2 x3 x4).cells.toArray) (by kernel_rfl) ?_)
    | (refine wpl_storeA (vs := (OptV.mk x0 x1 x2 x3 x4).cells) rfl (.tmp 2) (.tmp 13) (by rfl) agg_opt (by rfl) (by rfl) rfl (opt_one _) s1 rfl ?_; rintro w2 s2))
  have hL := run_loadA agg_opt (vs := (OptV.mk x0 x1 x2 x3 x4).cells) rfl s2.rowAll
  exact bodyPost_ret (v := .agg (OptV.mk x0 x1 x2 x3 x4).cells.toArray) (by simp [results, Tryz.results28, asAddr, hL, Act.put]) rfl (HK.out _ (s2.dropN 2))


section
attribute [local go_sem ↓] execOp_ldAny execOp_bsMk
attribute [local go_sem] run_bsMk
set_option maxRecDepth 100000 in
set_option maxHeartbeats 16000000 in
theorem speaks_c (hf : FirstW W) (st : St W w R) (K : ∀ w', St W w' R → post (.returned (.bool true)) w') : Calls Tryz.prog 6 #[] w post := by
  have HK := hid K; clear K
  have HF := hid hf; clear hf
  obtain ⟨r1, hr1⟩ : ∃ r1, (rS 0).put kS vS = r1 := ⟨_, rfl⟩
  have HS1 : Hid (r1.site = 0) := hid (by rw [← hr1]; exact rS_site)
  have HR1 := hid hr1
  clear hr1
  have lc := fun (w' : World) (T : Nat) (R' : List HP) (s : St W w' (row T 0 (ivs cS) :: R')) => show (loadG 36 (.pointer (some ⟨T, 0, none⟩))).run Tryz.prog w' = .ok (.agg (ivs cS).toArray) w' from run_loadG agg32 rfl s.rowAll
  have LC := hid lc; clear lc
  go_enter Tryz.func6, Tryz.ntmps6
  go_upto_region 5 with (first
    | (refine wpl_build (v := .agg (ivs cS).toArray) rfl (rfl : _ = Op.build 36 _) (by kernel_rfl) ?_)
    | (replace st := hid st; refine wpl_allocA rfl rfl zero32 st.out ?_; rintro T w1 s1; clear st)
    | (replace s1 := hid s1; refine wpl_storeA (vs := ivs cS) rfl (.tmp 1) (.tmp 12) (by rfl) agg32 (by rfl) (by rfl) rfl (ivs_one _) s1.out (by simp [ivs]) ?_; rintro w2 s2'; clear s1; have s2 : St W w2 (row T 0 (ivs cS) :: R) := s2'; clear s2'; have gT := LC.out _ _ _ s2)
    | (go_at_call 28; refine options_c rfl s2 ?_; clear gT; rintro w3 s3; clear s2)
    | (go_at_call 29; refine dnew_c s3 ?_; rintro d1 w4 s4; clear s3)
    | (go_at_call 27; refine open0_g (o := optOf cS) (D' := DskV.new) cS_check (by decide) (jopens0 DskOK.new rfl rfl) s4 ?_; rintro A1 w5 - s5'; clear s4; have s5 : St W w5 (RepA A1 (rS 0) :: row T 0 (ivs cS) :: R) := s5'; clear s5'))
  try simp only [Act.put, List.setIfInBounds_toArray, List.set_cons_succ, List.set_cons_zero]
  go_cut [4, 5] (fun v k wx => ∃ b dp, v = .pointer (some ⟨b, 0, none⟩) ∧ k = .int .i64 0 ∧ St W wx (row b 0 (millC A1.p cS dp none 0 0) :: RepA A1 (rS 0) :: row dp 0 [.slice none 0 0] :: row T 0 (ivs cS) :: R))
  case first =>
    have u := s5.drew
    have gA := LC.out _ _ _ (St.pick 1 u)
    go_region_held3 (fun w' => (loadG 36 (.pointer (some ⟨T, 0, none⟩))).run Tryz.prog w' = .ok (.agg (ivs cS).toArray) w')
      (first
        | with_reducible exact gC
        | with_reducible exact gB
        | with_reducible exact gA)
      (first
        | (go_at_call 12; refine dicenew_c u ?_; rintro dp w6 s6; have gB := LC.out _ _ _ (St.pick 2 s6))
        | (go_at_call 10; refine mnew_c (r := rS 0) (c := cS) (St.pick 1 s6) rfl cS_right (by decide) ?_; rintro b w7 s7; have gC := LC.out _ _ _ (St.pick 3 s7)))
    all_goals
      go_wp2_with fail
      go_meet
      case rel => exact ⟨_, _, rfl, rfl, s7⟩
  case rest =>
  obtain ⟨b, dp, rfl, rfl, s7⟩ := hcut
  go_wp2_with (first
    | (go_at_call 18; refine rput_c (k := kS) (v := vS) rS_ok HF.out (St.pick 1 s7) ?_; rintro w8 s8; rw [HR1.out] at s8; rw [rS_putX, rS_putW])
    | (refine wpl_allocA rfl rfl zero_en s8 ?_; rintro E w9 s9)
    | (refine wpl_storeA (vs := eS.cells) rfl (.tmp 6) (.tmp 36) (by rfl) agg_en (by rfl) (by rfl) rfl (env_one _) s9 rfl ?_; rintro wa sa; have lE := run_loadG agg_en (vs := eS.cells) rfl sa.rowAll)
    | (go_at_call 19; refine heat0_c (c := cS) rfl eS_check (by decide) (sa.perm [2]) ?_; rintro ha hcp wb sb; obtain ⟨hg, ho, rfl⟩ := (OwnS.rd sb).addr (by decide))
    | (go_at_call 22; have gg := se; refine hot0_c (c := cS) rfl se ?_; clear gg; rintro wf sf)
    | (go_at_call 22; refine hot1_c (c := cS) rfl sb ?_; rintro ao cc wc sc; have lA := run_loadG agg_st (vs := [.int .i64 1, .int .i64 0]) rfl (St.rowPart (St.pick 2 sc) 5 (xs := [.int .i64 1, .int .i64 0]) (ys := [.int .i64 0, .int .i64 0]) rfl); have sd := own1 (sc.alloc (MkV.cells ⟨1, 0, kS⟩).toArray 59))
    | (refine wpl_build (t := 59) rfl rfl (v := .agg (MkV.cells ⟨1, 0, kS⟩).toArray) (by kernel_rfl) ?_)
    | (refine wpl_build (t := 62) rfl rfl (v := .agg (echM (some ⟨wc.heap.size, 0, none⟩) 1).cells.toArray) (by kernel_rfl) ?_)
    | (go_at_call 13; refine takeEcho_c (r := r1) (c := cS) (k := ⟨1, 0, kS⟩) rfl (by decide) (by decide) (by rw [HS1.out]; decide) (by decide) (ech_good _ _) (sd.perm [1, 1, 2, 0]) ?_; rintro we se))
  exact HK.out _ (sf.dropN 4)
end
end
end Go.Proofs.YtojfjbbggpfijaaGreatDoor
