/- The document's desk; the law SessionNew: the walk. -/
import Derived.Test.YtpjdcijphnkioaaGreatSesE
import Derived.Test.YtpjdcijphnkioaaGreatDocO
namespace Go.Proofs.YtpjdcijphnkioaaGreat
open Go.RowKit Go.Qd RepV

theorem doc_site {W w : World} {R : List HP} {T : Nat} {o : OptV} {site : Int} (s : St W w (row T 0 (docZ o site) :: R)) : w.cell? ⟨T, 10, none⟩ = some (.int .i64 site) := by
  have := s.rowCell (i := 10) (v := .int .i64 site) rfl; rwa [Nat.zero_add] at this
/-- The document's desk, in its cells. -/
def rdeskC (c : List Int) (d : List Value) (peer : Int) : List Value := ivs c ++ (d ++ [.int .i64 peer, .int .i64 0, .bool false, .bool false, .int .i64 0, .int .i64 0, .int .i64 0, .string ByteArray.empty, .slice none 0 0, .int .i64 0, .int .i64 0, .slice none 0 0, .slice none 0 0])
def rdesk0 : List Value := rdeskC (List.replicate 20 0) doc0 0
theorem zero_rdesk (w : World) : (zeroValue 59).run Tryz.prog w = .ok (.agg rdesk0.toArray) w := by kernel_rfl
theorem agg_rdesk : AggT Tryz.prog 59 46 := ⟨⟨_, Tryz.underlying59, rfl⟩, by kernel_rfl⟩
theorem rdesk_len {c : List Int} (hc : c.length = 20) (o : OptV) (site peer : Int) : (rdeskC c (docZ o site) peer).length = 46 := by simp [rdeskC, ivs_len20 hc, docZ]
theorem rdesk_one (c : List Int) (o : OptV) (site peer : Int) : ∀ u ∈ rdeskC c (docZ o site) peer, u.oneCell' = true := by
  intro u hu
  unfold rdeskC at hu
  rcases List.mem_append.1 hu with h | h
  · exact ivs_one _ u h
  · rcases List.mem_append.1 h with h | h
    · exact docZ_one _ _ u h
    · simp only [List.mem_cons, List.not_mem_nil, or_false] at h
      rcases h with rfl | rfl | rfl | rfl | rfl | rfl | rfl | rfl | rfl | rfl | rfl | rfl | rfl <;> rfl
theorem rdesk0_one : ∀ u ∈ rdesk0, u.oneCell' = true := rdesk_one _ _ _ _

def bRD (x y z : Value) : Sem Value := Instr.build 59 #[(0, x), (1, y), (2, z)]
theorem execOp_bRD (ρ : Operand → Value) (dst : Option Tmp) (x y z : Operand) (ty : TypeId) (pos : String) (after : Array Edge) (guard : Option (Nat × Bool)) :
    execOp ρ { dst, op := .build 59 #[(0, x), (1, y), (2, z)], type := ty, pos, after, guard } = (do pure (.value (← bRD (ρ x) (ρ y) (ρ z)))) := by simp [execOp, bRD]
theorem run_bRD {c : List Int} (hc : c.length = 20) (o : OptV) (site : Int) (w : World) : (bRD (.agg (ivs c).toArray) (.agg (docZ o site).toArray) (.int .i64 (-1))).run Tryz.prog w = .ok (.agg (rdeskC c (docZ o site) (-1)).toArray) w := by
  obtain ⟨x0, x1, x2, x3, x4, x5, x6, x7, x8, x9, x10, x11, x12, x13, x14, x15, x16, x17, x18, x19, rfl⟩ := list20 hc
  kernel_rfl
section
attribute [local go_sem ↓] execOp_bRD
variable {W w : World} {R : List HP} {post : Ending → World → Prop} {o : OptV} {c : List Int} {site : Int}
set_option maxRecDepth 100000 in
set_option maxHeartbeats 8000000 in
theorem rsnew_bad (hc : c.length = 20) (hr : rightB c = false) (st : St W w R) (K : ∀ w', St W w' R → post (.returned (.tuple #[.agg rdesk0.toArray, .int .i64 14])) w') :
    Calls Tryz.prog 13 #[.agg (ivs c).toArray, .agg (docZ o site).toArray] w post := by
  have HK := hid K; clear K
  have HC := hid hc; have HR := hid hr
  clear hc hr
  go_enter Tryz.func13, Tryz.ntmps13
  go_wp2_with (first
    | (refine wpl_boxA (vs := ivs c) rfl (.tmp 0) rfl rfl st ?_; rintro T w1 s1; clear st)
    | (refine wpl_boxA (vs := docZ o site) rfl (.tmp 1) rfl rfl s1 ?_; rintro D w2 s2; clear s1)
    | (refine wpl_allocA rfl rfl zero_rdesk s2 ?_; rintro E w3 s3; clear s2)
    | (refine wpl_loadA (vs := ivs c) rfl (.tmp 2) (by rfl) agg23 (by rfl) (ivs_len20 HC.out) (St.pick 2 s3).rowAll ?_)
    | (go_at_call 39; refine right_c s3 HC.out ?_; rintro w4 s4; rw [HR.out])
    | (refine wpl_build rfl rfl (v := .agg rdesk0.toArray) (by kernel_rfl) ?_)
    | (refine wpl_storeA (vs := rdesk0) rfl (.tmp 4) (.tmp 9) (by rfl) agg_rdesk (by rfl) (by rfl) rfl rdesk0_one s4 rfl ?_; rintro w5 s5))
  have hL := run_loadA agg_rdesk (vs := rdesk0) rfl s5.rowAll
  exact bodyPost_ret (v := .tuple #[.agg rdesk0.toArray, .int .i64 14]) (by simp [results, Tryz.results13, asAddr, hL, Act.put]) rfl (HK.out _ (s5.dropN 3))
set_option maxRecDepth 100000 in
set_option maxHeartbeats 8000000 in
theorem rsnew_site (hc : c.length = 20) (hr : rightB c = true) (hs : c.getD 0 0 ≤ site) (st : St W w R) (K : ∀ w', St W w' R → post (.returned (.tuple #[.agg rdesk0.toArray, .int .i64 1])) w') :
    Calls Tryz.prog 13 #[.agg (ivs c).toArray, .agg (docZ o site).toArray] w post := by
  have HK := hid K; clear K
  have HC := hid hc; have HR := hid hr
  obtain ⟨n, hn⟩ : ∃ n, c.getD 0 0 = n := ⟨_, rfl⟩
  have HN := hid hn
  rw [hn] at hs
  have d1 : decide (n ≤ site) = true := decide_eq_true hs
  clear hc hr hn hs
  go_enter Tryz.func13, Tryz.ntmps13
  go_wp2_with (first
    | (refine wpl_boxA (vs := ivs c) rfl (.tmp 0) rfl rfl st ?_; rintro T w1 s1; clear st)
    | (refine wpl_boxA (vs := docZ o site) rfl (.tmp 1) rfl rfl s1 ?_; rintro D w2 s2; clear s1)
    | (refine wpl_allocA rfl rfl zero_rdesk s2 ?_; rintro E w3 s3; clear s2)
    | (refine wpl_loadA (vs := ivs c) rfl (.tmp 2) (by rfl) agg23 (by rfl) (ivs_len20 HC.out) (St.pick 2 s3).rowAll ?_)
    | (go_at_call 39; refine right_c s3 HC.out ?_; rintro w4 s4; rw [HR.out]; have k0 := cfg_at (St.pick 2 s4) (i := 0) (by rw [HC.out]; decide); rw [HN.out] at k0; have k1 := doc_site (St.pick 1 s4))
    | (refine wpl_build rfl rfl (v := .agg rdesk0.toArray) (by kernel_rfl) ?_)
    | (refine wpl_storeA (vs := rdesk0) rfl (.tmp 4) (.tmp 16) (by rfl) agg_rdesk (by rfl) (by rfl) rfl rdesk0_one s4 rfl ?_; rintro w5 s5))
  have hL := run_loadA agg_rdesk (vs := rdesk0) rfl s5.rowAll
  exact bodyPost_ret (v := .tuple #[.agg rdesk0.toArray, .int .i64 1]) (by simp [results, Tryz.results13, asAddr, hL, Act.put]) rfl (HK.out _ (s5.dropN 3))
set_option maxRecDepth 100000 in
set_option maxHeartbeats 8000000 in
theorem rsnew_c (hc : c.length = 20) (hr : rightB c = true) (hs : site < c.getD 0 0) (st : St W w R) (K : ∀ w', St W w' R → post (.returned (.tuple #[.agg (rdeskC c (docZ o site) (-1)).toArray, .int .i64 0])) w') :
    Calls Tryz.prog 13 #[.agg (ivs c).toArray, .agg (docZ o site).toArray] w post := by
  have HK := hid K; clear K
  have HC := hid hc; have HR := hid hr
  obtain ⟨n, hn⟩ : ∃ n, c.getD 0 0 = n := ⟨_, rfl⟩
  have HN := hid hn
  rw [hn] at hs
  have d1 : decide (n ≤ site) = false := decide_eq_false (by omega)
  have hb := run_bRD hc o site
  clear hc hr hn hs
  go_enter Tryz.func13, Tryz.ntmps13
  go_wp2_with (first
    | (refine wpl_boxA (vs := ivs c) rfl (.tmp 0) rfl rfl st ?_; rintro T w1 s1; clear st)
    | (refine wpl_boxA (vs := docZ o site) rfl (.tmp 1) rfl rfl s1 ?_; rintro D w2 s2; clear s1)
    | (refine wpl_allocA rfl rfl zero_rdesk s2 ?_; rintro E w3 s3; clear s2)
    | (have gg := s3; refine wpl_loadA (vs := ivs c) rfl (.tmp 2) (by rfl) agg23 (by rfl) (ivs_len20 HC.out) (St.pick 2 s3).rowAll ?_; clear gg)
    | (have gg := s4; refine wpl_loadA (vs := ivs c) rfl (.tmp 2) (by rfl) agg23 (by rfl) (ivs_len20 HC.out) (St.pick 2 s4).rowAll ?_; clear gg)
    | (have gg := s4; refine wpl_loadA (vs := docZ o site) rfl (.tmp 3) (by rfl) agg_doc (by rfl) rfl (St.pick 1 s4).rowAll ?_; clear gg)
    | (go_at_call 39; refine right_c s3 HC.out ?_; rintro w4 s4; clear s3; rw [HR.out]; have k0 := cfg_at (St.pick 2 s4) (i := 0) (by rw [HC.out]; decide); rw [HN.out] at k0; have k1 := doc_site (St.pick 1 s4))
    | (refine wpl_storeA (vs := rdeskC c (docZ o site) (-1)) rfl (.tmp 4) (.tmp 19) (by rfl) agg_rdesk (by rfl) (by rfl) (rdesk_len HC.out _ _ _) (rdesk_one _ _ _ _) s4 rfl ?_; rintro w5 s5))
  have hL := run_loadA agg_rdesk (vs := rdeskC c (docZ o site) (-1)) (rdesk_len HC.out _ _ _) s5.rowAll
  exact bodyPost_ret (v := .tuple #[.agg (rdeskC c (docZ o site) (-1)).toArray, .int .i64 0]) (by simp [results, Tryz.results13, asAddr, hL, Act.put]) rfl (HK.out _ (s5.dropN 3))
end
end Go.Proofs.YtpjdcijphnkioaaGreat
