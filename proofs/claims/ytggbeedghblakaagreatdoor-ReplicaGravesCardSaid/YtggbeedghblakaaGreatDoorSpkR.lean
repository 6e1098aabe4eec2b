/- The replica's laws: the example that each begins with. -/
import Derived.Test.YtggbeedghblakaaGreatDoorOpnA
import Derived.Test.YtggbeedghblakaaGreatDoorRepJ
import Derived.Test.YtggbeedghblakaaGreatDoorLaws
namespace Go.Proofs.YtggbeedghblakaaGreatDoor
open Go.RowKit Go.Qd RepV

/-- The journal of a disk without bytes. -/
theorem jopens0 {d : Nat} {D : DskV} (ho : DskOK D) (hof : D.off = false) (h0 : D.b = []) : JOpens d D D [] := fun _ _ _ _ st K =>
  jopen0_c ho hof h0 st (fun b w' s => K b none 0 0 w' ((recs_none s).perm [1, 1]))

def oS : OptV := ⟨2, 4, 1, 0, 0⟩
def rS0 : RepV := RepV.fresh 2 4 1 0 0 0 DskV.new
def kS : ByteArray := ⟨#[97]⟩
def oneS : ByteArray := ⟨#[49]⟩
def twoS : ByteArray := ⟨#[50]⟩
def eS : EnV := ⟨kS, ByteArray.empty, true, 9, 1, 9, 1, 1, 0⟩
theorem spk1 : rS0.putW kS oneS = 0 := by kernel_rfl
theorem spk2 : (rS0.put kS oneS).mergeW eS = 0 := by kernel_rfl
theorem spk3 : (rS0.put kS oneS).mergeK eS = 1 := by kernel_rfl
theorem spk4 : ((rS0.put kS oneS).merge eS).putW kS twoS = 0 := by kernel_rfl
theorem spk5 : (((rS0.put kS oneS).merge eS).putX kS twoS).sc = 10 := by kernel_rfl
theorem spk6 : (((rS0.put kS oneS).merge eS).putX kS twoS).ss = 0 := by kernel_rfl

theorem DskOK.new : DskOK DskV.new := ⟨by decide, by decide⟩
theorem rS0_ok : RepOK rS0 := RepOK.fresh (by decide) (by decide) (by decide) (by decide) DskOK.new

section
attribute [local go_sem ↓] execOp_ldAny
variable {W w : World} {R : List HP} {post : Ending → World → Prop}

set_option maxRecDepth 100000 in
set_option maxHeartbeats 8000000 in
theorem speaks_c (hf : FirstW W) (st : St W w R) (K : ∀ w', St W w' R → post (.returned (.bool true)) w') : Calls Tryz.prog 12 #[] w post := by
  have HK := hid K; clear K
  obtain ⟨r1, hr1⟩ : ∃ r1, rS0.put kS oneS = r1 := ⟨_, rfl⟩
  obtain ⟨r2, hr2⟩ : ∃ r2, r1.merge eS = r2 := ⟨_, rfl⟩
  have P1 := spk1; have P2 := spk2; have P3 := spk3; have P4 := spk4; have P5 := spk5; have P6 := spk6
  rw [hr1] at P2 P3 P4 P5 P6
  rw [hr2] at P4 P5 P6
  have HO0 := hid rS0_ok
  have HO1 : Hid (RepOK r1) := hid (by rw [← hr1]; exact rS0_ok.put _ _)
  have HO2 : Hid (RepOK r2) := hid (by rw [← hr2]; exact HO1.out.merge _)
  have HR1 := hid hr1; have HR2 := hid hr2
  obtain ⟨x, hx⟩ : ∃ x, r2.putX kS twoS = x := ⟨_, rfl⟩
  obtain ⟨y, hy⟩ : ∃ y, rS0.putX kS oneS = y := ⟨_, rfl⟩
  obtain ⟨z, hz⟩ : ∃ z, r1.mergeX eS = z := ⟨_, rfl⟩
  rw [hx] at P5 P6
  have HX := hid hx; have HY := hid hy; have HZ := hid hz
  have H1 := hid P1; have H2 := hid P2; have H3 := hid P3; have H4 := hid P4
  clear hr1 hr2 hx hy hz P1 P2 P3 P4
  have HF := hid hf
  go_enter Tryz.func12, Tryz.ntmps12
  go_wp2_with (first
    | (refine wpl_build (t := 25) rfl rfl (v := .agg oS.cells.toArray) (by kernel_rfl) ?_)
    | (go_at_call 14; refine dnew_c st ?_; rintro d w1 s1)
    | (go_at_call 13; refine open_g (o := oS) (D' := DskV.new) (es := []) (by kernel_rfl) (by decide) DskOK.new (jopens0 DskOK.new rfl rfl) (fun _ h => by cases h) s1 ?_ (fun _ h => by cases h); rintro q A w2 hq - s2; have hq2 : rS0 = q := Option.some.inj hq; subst hq2; clear hq)
    | (go_at_call 27; have gg := sB; refine rput_c (k := kS) (v := twoS) HO2.out HF.out sC ?_; rintro wD sD; rw [HX.out, H4.out])
    | (go_at_call 27; refine rput_c (k := kS) (v := oneS) HO0.out HF.out s2 ?_; rintro w3 s3; rw [HR1.out] at s3; rw [HY.out, H1.out])
    | (go_at_call 16; refine merge_c (e := eS) HO1.out s8 ?_; rintro w9 s9; rw [HR2.out] at s9; rw [H3.out, HZ.out, H2.out])
    | (have gg := sD; refine wpl_allocA rfl rfl zero_en sD ?_; rintro T9 wE sE)
    | (have gg := sE; refine wpl_storeA (vs := x.cells) rfl (.tmp 9) (.tmp 41) (by rfl) agg_en (by rfl) (by rfl) rfl (env_one _) sE rfl ?_; rintro wF sF; obtain ⟨c0, c1, c2, c3, c4, c5, c6⟩ := enL sF)
    | (refine wpl_allocA rfl rfl zero_en s3 ?_; rintro T3 w4 s4)
    | (refine wpl_storeA (vs := y.cells) rfl (.tmp 3) (.tmp 26) (by rfl) agg_en (by rfl) (by rfl) rfl (env_one _) s4 rfl ?_; rintro w5 s5)
    | (refine wpl_allocA rfl rfl zero_st s5 ?_; rintro T5 w6 s6)
    | (refine wpl_build (t := 37) rfl rfl (v := .agg [Value.int .i64 9, .int .i64 1].toArray) (by kernel_rfl) ?_)
    | (refine wpl_build (t := 39) rfl rfl (v := .agg eS.cells.toArray) (by kernel_rfl) ?_)
    | (refine wpl_storeA (vs := [.int .i64 9, .int .i64 1]) rfl (.tmp 5) (.tmp 28) (by rfl) agg_st (by rfl) (by rfl) rfl (st_one _ _) s6 rfl ?_; rintro w7 s7; have l5 := run_loadG agg_st (vs := [.int .i64 9, .int .i64 1]) rfl s7.rowAll; have s8 : St W w7 (RepA A r1 :: row T5 0 [.int .i64 9, .int .i64 1] :: row T3 0 y.cells :: R) := s7.perm [2])
    | (refine wpl_allocA rfl rfl zero_en s9 ?_; rintro T7 wA sA)
    | (refine wpl_storeA (vs := z.cells) rfl (.tmp 7) (.tmp 36) (by rfl) agg_en (by rfl) (by rfl) rfl (env_one _) sA rfl ?_; rintro wB sB; have sC : St W wB (RepA A r2 :: row T7 0 z.cells :: row T5 0 [.int .i64 9, .int .i64 1] :: row T3 0 y.cells :: R) := St.pick 1 sB))
  exact HK.out _ (sF.dropN 5)
end
end Go.Proofs.YtggbeedghblakaaGreatDoor
