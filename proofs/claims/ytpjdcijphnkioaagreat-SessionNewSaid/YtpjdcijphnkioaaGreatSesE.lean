/- The example of the chapter on sessions. -/
import Derived.Test.YtpjdcijphnkioaaGreatSesD
import Derived.Test.YtpjdcijphnkioaaGreatDocO
namespace Go.Proofs.YtpjdcijphnkioaaGreat
open Go.RowKit Go.Qd RepV

/-- What a replica has to know of a configuration. -/
def optOf (c : List Int) : OptV := ⟨c.getD 0 0, c.getD 1 0, c.getD 2 0, c.getD 3 0, c.getD 4 0⟩
def cS : List Int := [2, 2, 1, 0, 0, 1, 1, 1, 0, 1, 1, 1, 1, 1, 1, 1, 0, 4, 1, 16]
def rS (site : Int) : RepV := RepV.fresh (optOf cS).nodes (optOf cS).quota (optOf cS).retain (optOf cS).t1 (optOf cS).t2 site DskV.new
theorem cS_right : rightB cS = true := by kernel_rfl
theorem cS_check : (optOf cS).check = 0 := by kernel_rfl
section
variable {W w : World} {R : List HP} {post : Ending → World → Prop} {o : OptV}
set_option maxRecDepth 100000 in
set_option maxHeartbeats 4000000 in
theorem options_c {c : List Int} (hc : c.length = 20) (st : St W w R) (K : ∀ w', St W w' R → post (.returned (.agg (optOf c).cells.toArray)) w') : Calls Tryz.prog 17 #[.agg (ivs c).toArray] w post := by
  have HK := hid K; clear K
  obtain ⟨x0, x1, x2, x3, x4, x5, x6, x7, x8, x9, x10, x11, x12, x13, x14, x15, x16, x17, x18, x19, rfl⟩ := list20 hc
  clear hc
  go_enter Tryz.func17, Tryz.ntmps17
  go_wp2_with (first
    | (refine wpl_boxA (vs := ivs [x0, x1, x2, x3, x4, x5, x6, x7, x8, x9, x10, x11, x12, x13, x14, x15, x16, x17, x18, x19]) rfl (.tmp 0) rfl rfl st ?_; rintro T w0 s0)
    | (refine wpl_allocA (vs := [.int .i64 0, .int .i64 0, .int .i64 0, .int .i64 0, .int .i64 0]) rfl rfl (fun _ => by kernel_rfl) s0 ?_; rintro E w1 s1
       obtain ⟨k0, k1, k2, k3, k4, k5, k6, k7, k8, k9, k10, k11, k12, k13, k14, k15, k16, k17, k18, k19⟩ := cfgs (St.pick 1 s1))
    | (refine wpl_build rfl rfl (v := .agg (OptV.mk x0 x1 x2 x3 x4).cells.toArray) (by kernel_rfl) ?_)
    | (refine wpl_storeA (vs := (OptV.mk x0 x1 x2 x3 x4).cells) rfl (.tmp 2) (.tmp 13) (by rfl) agg_opt (by rfl) (by rfl) rfl (opt_one _) s1 rfl ?_; rintro w2 s2))
  have hL := run_loadA agg_opt (vs := (OptV.mk x0 x1 x2 x3 x4).cells) rfl s2.rowAll
  exact bodyPost_ret (v := .agg (OptV.mk x0 x1 x2 x3 x4).cells.toArray) (by simp [results, Tryz.results17, asAddr, hL, Act.put]) rfl (HK.out _ (s2.dropN 2))

/-- A letter in memory. -/
theorem let_ld {B : Nat} {x : LetV} (s : St W w (row B 0 x.cells :: R)) : (loadG 3 (.pointer (some ⟨B, 0, none⟩))).run Tryz.prog w = .ok (.int .i64 x.to) w ∧ (loadG 3 (.pointer (some ⟨B, 1, none⟩))).run Tryz.prog w = .ok (.int .i64 x.m.kind) w ∧
    (loadG 87 (.pointer (some ⟨B, 1, none⟩))).run Tryz.prog w = .ok (.agg x.m.cells.toArray) w := by
  have f : ∀ i v, x.cells[i]? = some v → w.cell? ⟨B, i, none⟩ = some v := fun i v hv => by have := s.rowCell hv; rwa [Nat.zero_add] at this
  exact ⟨run_ldP (by kernel_rfl) (f 0 _ rfl), run_ldP (by kernel_rfl) (f 1 _ rfl), run_loadG (o := 0 + 1) agg58 (vs := x.m.cells) rfl (St.rowPart s 1 (xs := x.m.cells) (ys := []) rfl)⟩

section
attribute [local go_sem ↓] execOp_ldAny
set_option maxRecDepth 100000 in
set_option maxHeartbeats 16000000 in
theorem speaks_c (st : St W w R) (K : ∀ w', St W w' R → post (.returned (.bool true)) w') : Calls Tryz.prog 5 #[] w post := by
  have HK := hid K; clear K
  have hL20 : (ivs cS).length = 20 := rfl
  have lc := fun (w' : World) (T : Nat) (R' : List HP) (s : St W w' (row T 0 (ivs cS) :: R')) => show (loadG 40 (.pointer (some ⟨T, 0, none⟩))).run Tryz.prog w' = .ok (.agg (ivs cS).toArray) w' from run_loadG agg32 rfl s.rowAll
  have LC := hid lc; clear lc
  go_enter Tryz.func5, Tryz.ntmps5
  go_wp2_with (first
    | (refine wpl_build (v := .agg (ivs cS).toArray) rfl (rfl : _ = Op.build 40 _) (by kernel_rfl) ?_)
    | (replace st := hid st; refine wpl_allocA rfl rfl zero32 st.out ?_; rintro T w1 s1; clear st)
    | (replace s1 := hid s1; refine wpl_storeA (vs := ivs cS) rfl (.tmp 1) (.tmp 20) (by rfl) agg32 (by rfl) (by rfl) rfl (ivs_one _) s1.out (by simp [ivs]) ?_; rintro w2 s2'; clear s1; have s2 : St W w2 (row T 0 (ivs cS) :: R) := s2'; clear s2'; have gT := LC.out _ _ _ s2)
    | (go_at_call 17; have gg := s5; refine options_c rfl s5 ?_; clear gg gT; rintro w6 s6; clear s5)
    | (go_at_call 17; have gg := s2; refine options_c rfl s2 ?_; clear gg gT; rintro w3 s3; clear s2)
    | (go_at_call 9; have gg := s6; refine dnew_c s6 ?_; clear gg; rintro d2 w7 s7; clear s6)
    | (go_at_call 9; have gg := s3; refine dnew_c s3 ?_; clear gg; rintro d1 w4 s4; clear s3)
    | (go_at_call 7; have gg := s7; refine open0_g (o := optOf cS) (D' := DskV.new) cS_check (by decide) (jopens0 DskOK.new rfl rfl) s7 ?_; clear gg; rintro A2 w8 - s8; clear s7; have gT := LC.out _ _ _ (St.pick 2 s8))
    | (go_at_call 7; have gg := s4; refine open0_g (o := optOf cS) (D' := DskV.new) cS_check (by decide) (jopens0 DskOK.new rfl rfl) s4 ?_; clear gg; rintro A1 w5 - s5'; clear s4; have s5 : St W w5 (RepA A1 (rS 0) :: row T 0 (ivs cS) :: R) := s5'; clear s5'; have gT := LC.out _ _ _ (St.pick 1 s5))
    | (go_at_call 10; have gg := s9; refine snew_c (r := rS 1) (c := cS) (St.pick 2 s9) rfl cS_right (by decide) ?_; clear gg gT; rintro b2 w10 s10; clear s9)
    | (go_at_call 10; have gg := s8; refine snew_c (r := rS 0) (c := cS) (St.pick 1 s8) rfl cS_right (by decide) ?_; clear gg gT; rintro b1 w9 s9'; clear s8; have s9 : St W w9 (row b1 0 (deskC A1.p cS none 0 0 0) :: RepA A1 (rS 0) :: RepA A2 (rS 1) :: row T 0 (ivs cS) :: R) := s9'; clear s9'; have gT := LC.out _ _ _ (St.pick 3 s9))
    | (go_at_call 18; refine start0_c (r := rS 0) (c := cS) rfl (by decide) (by decide) (by decide) (by decide) rfl (s10.perm [2, 2]) ?_; rintro B1 T1 w11 s11; obtain ⟨m0, m1, m2⟩ := let_ld s11; simp only [chkM, kindM] at m1)
    | (go_at_call 19; have gg := s12; refine takeMat_c (r := rS 0) (c := cS) (sm := 0) rfl (by decide) (by decide) (by decide) (by decide) rfl chk_good.2 (s12.perm [4, 4, 4]) ?_; clear gg; rintro w13 s13)
    | (go_at_call 19; have gg := s11; refine takeChk_c (r := rS 1) (c := cS) (sm := 0) rfl (by decide) (by decide) (by decide) (by decide) rfl rfl chk_good.1 (s11.perm [4, 4]) ?_; clear gg m0 m1 m2; rintro B2 w12 s12; obtain ⟨m0, m1, m2⟩ := let_ld s12; simp only [chkM, kindM] at m1)
    | (go_at_call 20; refine busy0_c rfl s13 ?_)
    | (go_at_call 21; refine ended_c rfl s13 ?_))
  exact HK.out _ (s13.dropN 8)
end
end
end Go.Proofs.YtpjdcijphnkioaaGreat
