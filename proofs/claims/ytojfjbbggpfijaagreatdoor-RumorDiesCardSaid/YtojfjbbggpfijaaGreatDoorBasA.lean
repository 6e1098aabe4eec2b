/- A configuration's bounds; the document's Options of it; the replica of a configuration on a fresh disk. -/
import Derived.Test.YtojfjbbggpfijaaGreatDoorNews
import Derived.Test.YtojfjbbggpfijaaGreatDoorCfgs
import Derived.Test.YtojfjbbggpfijaaGreatDoorRumE
namespace Go.Proofs.YtojfjbbggpfijaaGreatDoor
open Go.RowKit Go.Qd RepV

/-- What a right configuration's numbers are. -/
structure CfgOK (c : List Int) : Prop where
  n0 : 2 ≤ c.getD 0 0 ∧ c.getD 0 0 ≤ 12
  n1 : 1 ≤ c.getD 1 0 ∧ c.getD 1 0 ≤ 16
  n2 : 1 ≤ c.getD 2 0 ∧ c.getD 2 0 ≤ c.getD 0 0
  n3 : 0 ≤ c.getD 3 0 ∧ c.getD 3 0 ≤ 2147483647
  n4 : c.getD 3 0 ≤ c.getD 4 0 ∧ c.getD 4 0 ≤ 2147483647
  n34 : c.getD 3 0 = 0 → c.getD 4 0 = 0
  n14 : 1 ≤ c.getD 14 0 ∧ c.getD 14 0 ≤ 16
  n15 : 1 ≤ c.getD 15 0 ∧ c.getD 15 0 ≤ 8
  n16 : 0 ≤ c.getD 16 0 ∧ c.getD 16 0 ≤ 1
  n17 : 1 ≤ c.getD 17 0 ∧ c.getD 17 0 ≤ 8
theorem cfg_ok {c : List Int} (h : rightB c = true) : CfgOK c := by
  have f := rightB_iff.1 h
  have a4 : mostF c 4 = if c.getD 3 0 = 0 then 0 else 2147483647 := rfl
  have b4 := fine_lo (f 4 (by decide))
  have c4 := fine_hi (f 4 (by decide))
  rw [a4] at c4
  have d4 : leastF c 4 = c.getD 3 0 := rfl
  rw [d4] at b4
  exact ⟨⟨fine_lo (f 0 (by decide)), fine_hi (f 0 (by decide))⟩, ⟨fine_lo (f 1 (by decide)), fine_hi (f 1 (by decide))⟩, ⟨fine_lo (f 2 (by decide)), fine_hi (f 2 (by decide))⟩, ⟨fine_lo (f 3 (by decide)), fine_hi (f 3 (by decide))⟩,
    ⟨b4, by split at c4 <;> omega⟩, fun h0 => by rw [if_pos h0] at c4; omega, ⟨fine_lo (f 14 (by decide)), fine_hi (f 14 (by decide))⟩, ⟨fine_lo (f 15 (by decide)), fine_hi (f 15 (by decide))⟩, ⟨fine_lo (f 16 (by decide)), fine_hi (f 16 (by decide))⟩, ⟨fine_lo (f 17 (by decide)), fine_hi (f 17 (by decide))⟩⟩
theorem checkB_of {o : OptV} (h1 : 1 ≤ o.nodes ∧ o.nodes ≤ 12) (h2 : 1 ≤ o.quota ∧ o.quota ≤ 64) (h3 : 1 ≤ o.retain ∧ o.retain ≤ o.nodes) (h4 : 0 ≤ o.t1 ∧ o.t1 ≤ 2147483647) (h5 : o.t1 = 0 → o.t2 = 0) (h6 : o.t1 ≤ o.t2 ∧ o.t2 ≤ 2147483647) : o.check = 0 := by
  unfold OptV.check OptV.okB withinB
  rw [if_neg (by simp; omega), if_neg (by simp; omega), if_neg (by simp; omega)]
theorem CfgOK.check {c : List Int} (h : CfgOK c) : (optOf c).check = 0 := by
  have h0 := h.n0; have h1 := h.n1; have h2 := h.n2; have h3 := h.n3; have h4 := h.n4
  exact checkB_of (o := optOf c) ⟨by show 1 ≤ c.getD 0 0; omega, h0.2⟩ ⟨h1.1, by show c.getD 1 0 ≤ 64; omega⟩ h2 h3 h.n34 h4
/-- The replica of a configuration on a fresh disk. -/
def baseR (c : List Int) (self : Int) : RepV := RepV.fresh (c.getD 0 0) (c.getD 1 0) (c.getD 2 0) (c.getD 3 0) (c.getD 4 0) self DskV.new
theorem CfgOK.base {c : List Int} (h : CfgOK c) {self : Int} (hs : 0 ≤ self ∧ self < c.getD 0 0) : RepOK (baseR c self) := by
  have h0 := h.n0; have h1 := h.n1
  exact RepOK.fresh (by omega) (by omega) hs h.n3 DskOK.new
section
variable {W w : World} {R : List HP} {post : Ending → World → Prop} {c : List Int}
theorem agg_ro13 : AggT Tryz.prog 97 5 := ⟨⟨_, Tryz.underlying97, rfl⟩, by kernel_rfl⟩
set_option maxRecDepth 100000 in
set_option maxHeartbeats 4000000 in
theorem ropts_c (hc : c.length = 20) (st : St W w R) (K : ∀ w', St W w' R → post (.returned (.agg (optOf c).cells.toArray)) w') : Calls Tryz.prog 34 #[.agg (ivs c).toArray] w post := by
  have HK := hid K; clear K
  obtain ⟨x0, x1, x2, x3, x4, x5, x6, x7, x8, x9, x10, x11, x12, x13, x14, x15, x16, x17, x18, x19, rfl⟩ := list20 hc
  clear hc
  go_enter Tryz.func34, Tryz.ntmps34
  go_wp2_with (first
    | (refine wpl_boxA (vs := ivs [x0, x1, x2, x3, x4, x5, x6, x7, x8, x9, x10, x11, x12, x13, x14, x15, x16, x17, x18, x19]) rfl (.tmp 0) rfl rfl st ?_; rintro T w0 s0)
    | (refine wpl_allocA (vs := [.int .i64 0, .int .i64 0, .int .i64 0, .int .i64 0, .int .i64 0]) rfl rfl (fun _ => by kernel_rfl) s0 ?_; rintro E w1 s1
       obtain ⟨k0, k1, k2, k3, k4, k5, k6, k7, k8, k9, k10, k11, k12, k13, k14, k15, k16, k17, k18, k19⟩ := cfgs (St.pick 1 s1))
    | (refine wpl_build rfl rfl (v := .agg (OptV.mk x0 x1 x2 x3 x4).cells.toArray) (by kernel_rfl) ?_)
    | (refine wpl_storeA (vs := (OptV.mk x0 x1 x2 x3 x4).cells) rfl (.tmp 2) (.tmp 13) (by rfl) agg_ro13 (by rfl) (by rfl) rfl (opt_one _) s1 rfl ?_; rintro w2 s2))
  have hL := run_loadA agg_ro13 (vs := (OptV.mk x0 x1 x2 x3 x4).cells) rfl s2.rowAll
  exact bodyPost_ret (v := .agg (OptV.mk x0 x1 x2 x3 x4).cells.toArray) (by simp [results, Tryz.results34, asAddr, hL, Act.put]) rfl (HK.out _ (s2.dropN 2))
section
attribute [local go_sem ↓] execOp_ldAny
set_option maxRecDepth 100000 in
set_option maxHeartbeats 4000000 in
theorem base_c {self : Int} (hc : c.length = 20) (h : CfgOK c) (hs : 0 ≤ self ∧ self < c.getD 0 0) (st : St W w R)
    (K : ∀ A w', St W w' (RepA A (baseR c self) :: R) → post (.returned (.pointer (some ⟨A.p, 0, none⟩))) w') : Calls Tryz.prog 9 #[.int .i64 self, .agg (ivs c).toArray] w post := by
  have HK := hid K; clear K
  have HC := hid hc; have HH := hid h; have HS := hid hs
  clear hc h hs
  go_enter Tryz.func9, Tryz.ntmps9
  go_wp2_with (first
    | (refine wpl_boxA (vs := ivs c) rfl (.tmp 1) rfl rfl st ?_; rintro T w0 s0; have gT := run_loadG agg23 (ivs_len20 HC.out) s0.rowAll)
    | (go_at_call 34; refine ropts_c HC.out s0 ?_; rintro w1 s1; clear gT)
    | (go_at_call 33; refine of12_c s1 ?_; rintro w2 s2)
    | (go_at_call 29; refine dnew_c s2 ?_; rintro d w3 s3)
    | (go_at_call 27; refine open0_g (o := optOf c) (D' := DskV.new) HH.out.check HS.out (jopens0 DskOK.new rfl rfl) s3 ?_; rintro A w4 - s4; have s5 : St W w4 (RepA A (baseR c self) :: row T 0 (ivs c) :: R) := s4))
  exact HK.out A _ ((s5.pick 1).drop)
end
end
end Go.Proofs.YtojfjbbggpfijaaGreatDoor
