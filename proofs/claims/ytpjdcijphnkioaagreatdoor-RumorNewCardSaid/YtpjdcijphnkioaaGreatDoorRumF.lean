/- The document's mill. Printed by mkRumF.py. -/
import Derived.Test.YtpjdcijphnkioaaGreatDoorRumE
import Derived.Test.YtpjdcijphnkioaaGreatDoorDocO
namespace Go.Proofs.YtpjdcijphnkioaaGreatDoor
open Go.RowKit Go.Qd RepV

theorem doc_site {W w : World} {R : List HP} {T : Nat} {o : OptV} {site : Int} (s : St W w (row T 0 (docZ o site) :: R)) : w.cell? ⟨T, 10, none⟩ = some (.int .i64 site) := by
  have := s.rowCell (i := 10) (v := .int .i64 site) rfl; rwa [Nat.zero_add] at this
/-- The document's mill, in its cells. -/
def rmillC (c : List Int) (d : List Value) : List Value := ivs c ++ (d ++ [.slice none 0 0, .slice none 0 0, .slice none 0 0, .slice none 0 0])
def rmill0 : List Value := rmillC (List.replicate 20 0) doc0
theorem zero_rmill (w : World) : (zeroValue 58).run Tryz.prog w = .ok (.agg rmill0.toArray) w := by kernel_rfl
theorem agg_rmill : AggT Tryz.prog 58 37 := ⟨⟨_, Tryz.underlying58, rfl⟩, by kernel_rfl⟩
theorem rmill_len {c : List Int} (hc : c.length = 20) (o : OptV) (site : Int) : (rmillC c (docZ o site)).length = 37 := by simp [rmillC, ivs_len20 hc, docZ]
theorem rmill_one (c : List Int) (o : OptV) (site : Int) : ∀ u ∈ rmillC c (docZ o site), u.oneCell' = true := by
  intro u hu
  unfold rmillC at hu
  rcases List.mem_append.1 hu with h | h
  · exact ivs_one _ u h
  · rcases List.mem_append.1 h with h | h
    · exact docZ_one _ _ u h
    · simp only [List.mem_cons, List.not_mem_nil, or_false] at h
      rcases h with rfl | rfl | rfl | rfl <;> rfl
theorem rmill0_one : ∀ u ∈ rmill0, u.oneCell' = true := rmill_one _ _ _

def bRD (x y z : Value) : Sem Value := Instr.build 58 #[(0, x), (1, y), (2, z)]
theorem execOp_bRD (ρ : Operand → Value) (dst : Option Tmp) (x y z : Operand) (ty : TypeId) (pos : String) (after : Array Edge) (guard : Option (Nat × Bool)) :
    execOp ρ { dst, op := .build 58 #[(0, x), (1, y), (2, z)], type := ty, pos, after, guard } = (do pure (.value (← bRD (ρ x) (ρ y) (ρ z)))) := by simp [execOp, bRD]
theorem run_bRD {c : List Int} (hc : c.length = 20) (o : OptV) (site : Int) (w : World) : (bRD (.agg (ivs c).toArray) (.agg (docZ o site).toArray) (.slice none 0 0)).run Tryz.prog w = .ok (.agg (rmillC c (docZ o site)).toArray) w := by
  obtain ⟨x0, x1, x2, x3, x4, x5, x6, x7, x8, x9, x10, x11, x12, x13, x14, x15, x16, x17, x18, x19, rfl⟩ := list20 hc
  kernel_rfl
section
attribute [local go_sem ↓] execOp_bRD
variable {W w : World} {R : List HP} {post : Ending → World → Prop} {o : OptV} {c : List Int} {site : Int}
set_option maxRecDepth 100000 in
set_option maxHeartbeats 8000000 in
theorem rmnew_bad (hc : c.length = 20) (hr : rightB c = false) (st : St W w R) (K : ∀ w', St W w' R → post (.returned (.tuple #[.agg rmill0.toArray, .int .i64 14])) w') :
    Calls Tryz.prog 13 #[.agg (ivs c).toArray, .agg (docZ o site).toArray, .slice none 0 0] w post := by
  have HK := hid K; clear K
  have HC := hid hc; have HR := hid hr
  clear hc hr
  go_enter Tryz.func13, Tryz.ntmps13
  go_wp2_with (first
    | (refine wpl_boxA (vs := ivs c) rfl (.tmp 0) rfl rfl st ?_; rintro T w1 s1; clear st)
    | (refine wpl_boxA (vs := docZ o site) rfl (.tmp 1) rfl rfl s1 ?_; rintro D w2 s2; clear s1)
    | (refine wpl_allocA rfl rfl zero_rmill s2 ?_; rintro E w3 s3; clear s2)
    | (refine wpl_loadA (vs := ivs c) rfl (.tmp 3) (by rfl) agg23 (by rfl) (ivs_len20 HC.out) (St.pick 2 s3).rowAll ?_)
    | (go_at_call 37; refine right_c s3 HC.out ?_; rintro w4 s4; rw [HR.out])
    | (refine wpl_build rfl rfl (v := .agg rmill0.toArray) (by kernel_rfl) ?_)
    | (refine wpl_storeA (vs := rmill0) rfl (.tmp 6) (.tmp 11) (by rfl) agg_rmill (by rfl) (by rfl) rfl rmill0_one s4 rfl ?_; rintro w5 s5))
  have hL := run_loadA agg_rmill (vs := rmill0) rfl s5.rowAll
  exact bodyPost_ret (v := .tuple #[.agg rmill0.toArray, .int .i64 14]) (by simp [results, Tryz.results13, asAddr, hL]) rfl (HK.out _ (s5.dropN 3))
set_option maxRecDepth 100000 in
set_option maxHeartbeats 8000000 in
theorem rmnew_site (hc : c.length = 20) (hr : rightB c = true) (hs : c.getD 0 0 ≤ site) (st : St W w R) (K : ∀ w', St W w' R → post (.returned (.tuple #[.agg rmill0.toArray, .int .i64 1])) w') :
    Calls Tryz.prog 13 #[.agg (ivs c).toArray, .agg (docZ o site).toArray, .slice none 0 0] w post := by
  have HK := hid K; clear K
  have HC := hid hc; have HR := hid hr
  obtain ⟨n, hn⟩ : ∃ n, c.getD 0 0 = n := ⟨_, rfl⟩
  have HN := hid hn
  rw [hn] at hs
  have d1 : decide (n ≤ site) = true := decide_eq_true hs
  clear hc hr hn hs
  go_enter Tryz.func13, Tryz.ntmps13
  go_wp2_with (first
    | (refine wpl_boxA (vs := ivs c) rfl (.tmp 0) rfl rfl st ?_; rintro T w1 s1; clear st)
    | (refine wpl_boxA (vs := docZ o site) rfl (.tmp 1) rfl rfl s1 ?_; rintro D w2 s2; clear s1)
    | (refine wpl_allocA rfl rfl zero_rmill s2 ?_; rintro E w3 s3; clear s2)
    | (refine wpl_loadA (vs := ivs c) rfl (.tmp 3) (by rfl) agg23 (by rfl) (ivs_len20 HC.out) (St.pick 2 s3).rowAll ?_)
    | (go_at_call 37; refine right_c s3 HC.out ?_; rintro w4 s4; rw [HR.out]; have k0 := cfg_at (St.pick 2 s4) (i := 0) (by rw [HC.out]; decide); rw [HN.out] at k0; have k1 := doc_site (St.pick 1 s4))
    | (refine wpl_build rfl rfl (v := .agg rmill0.toArray) (by kernel_rfl) ?_)
    | (refine wpl_storeA (vs := rmill0) rfl (.tmp 6) (.tmp 18) (by rfl) agg_rmill (by rfl) (by rfl) rfl rmill0_one s4 rfl ?_; rintro w5 s5))
  have hL := run_loadA agg_rmill (vs := rmill0) rfl s5.rowAll
  exact bodyPost_ret (v := .tuple #[.agg rmill0.toArray, .int .i64 1]) (by simp [results, Tryz.results13, asAddr, hL]) rfl (HK.out _ (s5.dropN 3))
set_option maxRecDepth 100000 in
set_option maxHeartbeats 8000000 in
theorem rmnew_c (hc : c.length = 20) (hr : rightB c = true) (hs : site < c.getD 0 0) (st : St W w R) (K : ∀ w', St W w' R → post (.returned (.tuple #[.agg (rmillC c (docZ o site)).toArray, .int .i64 0])) w') :
    Calls Tryz.prog 13 #[.agg (ivs c).toArray, .agg (docZ o site).toArray, .slice none 0 0] w post := by
  have HK := hid K; clear K
  have HC := hid hc; have HR := hid hr
  obtain ⟨n, hn⟩ : ∃ n, c.getD 0 0 = n := ⟨_, rfl⟩
  have HN := hid hn
  rw [hn] at hs
  have d1 : decide (n ≤ site) = false := decide_eq_false (by omega)
  have hb := run_bRD hc o site
  clear hc hr hn hs
  go_enter Tryz.func13, Tryz.ntmps13
  go_wp2_with (first
    | (refine wpl_boxA (vs := ivs c) rfl (.tmp 0) rfl rfl st ?_; rintro T w1 s1; clear st)
    | (refine wpl_boxA (vs := docZ o site) rfl (.tmp 1) rfl rfl s1 ?_; rintro D w2 s2; clear s1)
    | (refine wpl_allocA rfl rfl zero_rmill s2 ?_; rintro E w3 s3; clear s2)
    | (have gg := s3; refine wpl_loadA (vs := ivs c) rfl (.tmp 3) (by rfl) agg23 (by rfl) (ivs_len20 HC.out) (St.pick 2 s3).rowAll ?_; clear gg)
    | (have gg := s4; refine wpl_loadA (vs := ivs c) rfl (.tmp 3) (by rfl) agg23 (by rfl) (ivs_len20 HC.out) (St.pick 2 s4).rowAll ?_; clear gg)
    | (have gg := s4; refine wpl_loadA (vs := docZ o site) rfl (.tmp 4) (by rfl) agg_doc (by rfl) rfl (St.pick 1 s4).rowAll ?_; clear gg)
    | (go_at_call 37; refine right_c s3 HC.out ?_; rintro w4 s4; clear s3; rw [HR.out]; have k0 := cfg_at (St.pick 2 s4) (i := 0) (by rw [HC.out]; decide); rw [HN.out] at k0; have k1 := doc_site (St.pick 1 s4))
    | (refine wpl_storeA (vs := rmillC c (docZ o site)) rfl (.tmp 6) (.tmp 22) (by rfl) agg_rmill (by rfl) (by rfl) (rmill_len HC.out _ _) (rmill_one _ _ _) s4 rfl ?_; rintro w5 s5))
  have hL := run_loadA agg_rmill (vs := rmillC c (docZ o site)) (rmill_len HC.out _ _) s5.rowAll
  exact bodyPost_ret (v := .tuple #[.agg (rmillC c (docZ o site)).toArray, .int .i64 0]) (by simp [results, Tryz.results13, asAddr, hL]) rfl (HK.out _ (s5.dropN 3))
end
end Go.Proofs.YtpjdcijphnkioaaGreatDoor
