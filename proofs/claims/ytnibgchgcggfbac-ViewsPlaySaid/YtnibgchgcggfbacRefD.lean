/- The reference's views: Lower, Learn. -/
import Derived.Test.YtnibgchgcggfbacRefC
namespace Go.Proofs.Ytnibgchgcggfbac
open Go.RowKit Go.Qd

section
variable {W w : World} {R : List HP} {post : Ending → World → Prop} {V : VV} {ao : Option Addr} {m c : Nat} {D : List Int} {q : Int}

set_option maxRecDepth 100000 in
set_option maxHeartbeats 800000 in
theorem rlower_no (st : St W w (RdH W 1 ao m c (ivs D) :: R)) (h : memB V.a q = false)
    (K : ∀ w', St W w' (RdH W 1 ao m c (ivs D) :: R) → post (.returned (.tuple #[.agg (refCells V).toArray, .slice ao m c, .bool false])) w') :
    Calls Try.prog 33 #[.agg (refCells V).toArray, .slice ao m c, .int .i64 q] w post := by
  have HK := hid K; clear K
  have HM := hid h; clear h
  by_cases hn : nodeB q = true
  · obtain ⟨q0, q1⟩ := nodeB_iff.1 hn
    have HN := hid hn
    obtain ⟨k, rfl⟩ := Int.eq_ofNat_of_zero_le q0
    have hk : k < 12 := by omega
    clear hn
    go_enter Try.func33, Try.ntmps33
    go_wp2_with (first
      | (refine wpl_boxA (vs := refCells V) rfl (.tmp 0) rfl rfl st ?_; rintro B w1 s1)
      | (refine wpl_allocA rfl rfl zero41 s1 ?_; rintro E w2 s2; have h1 := ref_a (St.pick 1 s2) hk; rw [HM.out] at h1)
      | (go_at_call 18; refine rnode_c ?_; rw [HN.out])
      | (refine wpl_loadA (vs := refCells V) rfl (.tmp 3) (by rfl) agg41 (by rfl) (refCells_len _) (St.pick 1 s2).rowAll ?_)
      | (refine wpl_storeA (vs := refCells V) rfl (.tmp 6) (.tmp 19) (by rfl) agg41 (by rfl) (by rfl) (refCells_len _) (refCells_one _) s2 rfl ?_; rintro w3 s3))
    have hL := run_loadA agg41 (refCells_len _) s3.rowAll
    exact bodyPost_ret (v := .tuple #[.agg (refCells V).toArray, .slice ao m c, .bool false]) (by simp [results, Try.results33, asAddr, hL]) rfl (HK.out _ (s3.dropN 2))
  · have hnf : nodeB q = false := by simpa using hn
    have HN := hid hnf
    clear hn hnf
    go_enter Try.func33, Try.ntmps33
    go_wp2_with (first
      | (refine wpl_boxA (vs := refCells V) rfl (.tmp 0) rfl rfl st ?_; rintro B w1 s1)
      | (refine wpl_allocA rfl rfl zero41 s1 ?_; rintro E w2 s2)
      | (go_at_call 18; refine rnode_c ?_; rw [HN.out])
      | (refine wpl_loadA (vs := refCells V) rfl (.tmp 3) (by rfl) agg41 (by rfl) (refCells_len _) (St.pick 1 s2).rowAll ?_)
      | (refine wpl_storeA (vs := refCells V) rfl (.tmp 6) (.tmp 19) (by rfl) agg41 (by rfl) (by rfl) (refCells_len _) (refCells_one _) s2 rfl ?_; rintro w3 s3))
    have hL := run_loadA agg41 (refCells_len _) s3.rowAll
    exact bodyPost_ret (v := .tuple #[.agg (refCells V).toArray, .slice ao m c, .bool false]) (by simp [results, Try.results33, asAddr, hL]) rfl (HK.out _ (s3.dropN 2))

set_option maxRecDepth 100000 in
set_option maxHeartbeats 800000 in
theorem rlower_yes (st : St W w (RdH W 1 ao m c (ivs D) :: R)) (hV : VOK V) (h : memB V.a q = true)
    (K : ∀ ao' m' c' w', St W w' (RdH W 1 ao' m' c' (ivs (lowerD V D q)) :: R) → post (.returned (.tuple #[.agg (refCells (lowerV V D q)).toArray, .slice ao' m' c', .bool true])) w') :
    Calls Try.prog 33 #[.agg (refCells V).toArray, .slice ao m c, .int .i64 q] w post := by
  unfold lowerV lowerD at K
  simp only [h, if_true] at K
  have HK := hid K; clear K
  have hn := (hV.na _ (memB_iff.1 h)).1
  obtain ⟨q0, q1⟩ := nodeB_iff.1 hn
  have HN := hid hn
  obtain ⟨k, rfl⟩ := Int.eq_ofNat_of_zero_le q0
  have hk : k < 12 := by omega
  have HM := hid h
  have HP := hid hV.sp; have HPN := hid (show ∀ x ∈ V.p, nodeB x = true from fun x hx => (hV.np x hx).1)
  have hpm := hV.pm.1
  clear hn h hV
  go_enter Try.func33, Try.ntmps33
  go_wp2_with (first
    | (refine wpl_boxA (vs := refCells V) rfl (.tmp 0) rfl rfl st ?_; rintro B w1 s1)
    | (refine wpl_allocA rfl rfl zero41 s1 ?_; rintro E w2 s2'; have s2 := St.pick 1 s2'; clear s2'; have h1 := ref_a s2 hk; rw [HM.out] at h1; have q3 := ref_free s2 (i := 1 + k) (by omega); have s3 := ref_setA s2 hk (.bool false) (bits_drop V.a k))
    | (go_at_call 18; refine rnode_c ?_; rw [HN.out])
    | (refine wpl_loadA (vs := refCells { V with a := dropL V.a k }) rfl (.tmp 3) (by rfl) agg41 (by rfl) (refCells_len _) s3.rowAll ?_)
    | (go_at_call 50; refine aside_c (V := { V with a := dropL V.a k }) (q := k) (St.pick 2 s3) HP.out HPN.out hpm HN.out ?_; rintro aE mE cE wE sE)
    | (refine wpl_storeA (vs := refCells { V with a := dropL V.a k, p := addL D V.p V.pm k }) rfl (.tmp 3) (.tmp 29) (by rfl) agg41 (by rfl) (by rfl) (refCells_len _) (refCells_one _) (St.pick 1 sE) (refCells_len _) ?_; rintro w11 s11)
    | (refine wpl_loadA (vs := refCells { V with a := dropL V.a k, p := addL D V.p V.pm k }) rfl (.tmp 3) (by rfl) agg41 (by rfl) (refCells_len _) s11.rowAll ?_)
    | (refine wpl_storeA (vs := refCells { V with a := dropL V.a k, p := addL D V.p V.pm k }) rfl (.tmp 6) (.tmp 31) (by rfl) agg41 (by rfl) (by rfl) (refCells_len _) (refCells_one _) (St.pick 2 s11) rfl ?_; rintro w12 s12))
  have hL := run_loadA agg41 (refCells_len _) s12.rowAll
  exact bodyPost_ret (v := .tuple #[.agg (refCells { V with a := dropL V.a k, p := addL D V.p V.pm k }).toArray, .slice aE mE cE, .bool true]) (by simp [results, Try.results33, asAddr, hL]) rfl (HK.out _ _ _ _ (s12.dropN 2))

set_option maxRecDepth 100000 in
set_option maxHeartbeats 800000 in
theorem rlearn_no (st : St W w (RdH W 1 ao m c (ivs D) :: R)) (h : learnOk V q = false)
    (K : ∀ w', St W w' (RdH W 1 ao m c (ivs D) :: R) → post (.returned (.tuple #[.agg (refCells V).toArray, .slice ao m c, .bool false])) w') :
    Calls Try.prog 34 #[.agg (refCells V).toArray, .slice ao m c, .int .i64 q] w post := by
  have HK := hid K; clear K
  by_cases hn : nodeB q = true
  · obtain ⟨q0, q1⟩ := nodeB_iff.1 hn
    have HN := hid hn
    obtain ⟨k, rfl⟩ := Int.eq_ofNat_of_zero_le q0
    have hk : k < 12 := by omega
    by_cases hse : (k : Int) = V.self
    · have hb : ((k : Int) == V.self) = true := by simpa using hse
      clear hn h hse
      go_enter Try.func34, Try.ntmps34
      go_wp2_with (first
        | (refine wpl_boxA (vs := refCells V) rfl (.tmp 0) rfl rfl st ?_; rintro B w1 s1)
        | (refine wpl_allocA rfl rfl zero41 s1 ?_; rintro E w2 s2; have h0 := ref_self (St.pick 1 s2))
        | (go_at_call 18; refine rnode_c ?_; rw [HN.out])
        | (refine wpl_loadA (vs := refCells V) rfl (.tmp 3) (by rfl) agg41 (by rfl) (refCells_len _) (St.pick 1 s2).rowAll ?_)
        | (refine wpl_storeA (vs := refCells V) rfl (.tmp 6) (.tmp 30) (by rfl) agg41 (by rfl) (by rfl) (refCells_len _) (refCells_one _) s2 rfl ?_; rintro w3 s3))
      have hL := run_loadA agg41 (refCells_len _) s3.rowAll
      exact bodyPost_ret (v := .tuple #[.agg (refCells V).toArray, .slice ao m c, .bool false]) (by simp [results, Try.results34, asAddr, hL]) rfl (HK.out _ (s3.dropN 2))
    · have hb : ((k : Int) == V.self) = false := by simpa using hse
      obtain ⟨ma, hma⟩ : ∃ ma, memB V.a (k : Int) = ma := ⟨_, rfl⟩
      have HA := hid hma
      cases ma with
      | true =>
        clear hn h hse hma
        go_enter Try.func34, Try.ntmps34
        go_wp2_with (first
          | (refine wpl_boxA (vs := refCells V) rfl (.tmp 0) rfl rfl st ?_; rintro B w1 s1)
          | (refine wpl_allocA rfl rfl zero41 s1 ?_; rintro E w2 s2; have h0 := ref_self (St.pick 1 s2); have h1 := ref_a (St.pick 1 s2) hk; rw [HA.out] at h1)
          | (go_at_call 18; refine rnode_c ?_; rw [HN.out])
          | (refine wpl_loadA (vs := refCells V) rfl (.tmp 3) (by rfl) agg41 (by rfl) (refCells_len _) (St.pick 1 s2).rowAll ?_)
          | (refine wpl_storeA (vs := refCells V) rfl (.tmp 6) (.tmp 30) (by rfl) agg41 (by rfl) (by rfl) (refCells_len _) (refCells_one _) s2 rfl ?_; rintro w3 s3))
        have hL := run_loadA agg41 (refCells_len _) s3.rowAll
        exact bodyPost_ret (v := .tuple #[.agg (refCells V).toArray, .slice ao m c, .bool false]) (by simp [results, Try.results34, asAddr, hL]) rfl (HK.out _ (s3.dropN 2))
      | false =>
        have hmp : memB V.p (k : Int) = true := by
          cases hx : memB V.p (k : Int) with
          | true => rfl
          | false => exact absurd (learnOk_iff.2 ⟨hn, hse, memB_false hma, memB_false hx⟩) (by rw [h]; simp)
        have HP := hid hmp
        clear hn h hse hma hmp
        go_enter Try.func34, Try.ntmps34
        go_wp2_with (first
          | (refine wpl_boxA (vs := refCells V) rfl (.tmp 0) rfl rfl st ?_; rintro B w1 s1)
          | (refine wpl_allocA rfl rfl zero41 s1 ?_; rintro E w2 s2; have h0 := ref_self (St.pick 1 s2); have h1 := ref_a (St.pick 1 s2) hk; rw [HA.out] at h1; have h2 := ref_p (St.pick 1 s2) hk; rw [HP.out] at h2)
          | (go_at_call 18; refine rnode_c ?_; rw [HN.out])
          | (refine wpl_loadA (vs := refCells V) rfl (.tmp 3) (by rfl) agg41 (by rfl) (refCells_len _) (St.pick 1 s2).rowAll ?_)
          | (refine wpl_storeA (vs := refCells V) rfl (.tmp 6) (.tmp 30) (by rfl) agg41 (by rfl) (by rfl) (refCells_len _) (refCells_one _) s2 rfl ?_; rintro w3 s3))
        have hL := run_loadA agg41 (refCells_len _) s3.rowAll
        exact bodyPost_ret (v := .tuple #[.agg (refCells V).toArray, .slice ao m c, .bool false]) (by simp [results, Try.results34, asAddr, hL]) rfl (HK.out _ (s3.dropN 2))
  · have hnf : nodeB q = false := by simpa using hn
    have HN := hid hnf
    clear hn hnf h
    go_enter Try.func34, Try.ntmps34
    go_wp2_with (first
      | (refine wpl_boxA (vs := refCells V) rfl (.tmp 0) rfl rfl st ?_; rintro B w1 s1)
      | (refine wpl_allocA rfl rfl zero41 s1 ?_; rintro E w2 s2)
      | (go_at_call 18; refine rnode_c ?_; rw [HN.out])
      | (refine wpl_loadA (vs := refCells V) rfl (.tmp 3) (by rfl) agg41 (by rfl) (refCells_len _) (St.pick 1 s2).rowAll ?_)
      | (refine wpl_storeA (vs := refCells V) rfl (.tmp 6) (.tmp 30) (by rfl) agg41 (by rfl) (by rfl) (refCells_len _) (refCells_one _) s2 rfl ?_; rintro w3 s3))
    have hL := run_loadA agg41 (refCells_len _) s3.rowAll
    exact bodyPost_ret (v := .tuple #[.agg (refCells V).toArray, .slice ao m c, .bool false]) (by simp [results, Try.results34, asAddr, hL]) rfl (HK.out _ (s3.dropN 2))

set_option maxRecDepth 100000 in
set_option maxHeartbeats 800000 in
theorem rlearn_yes (st : St W w (RdH W 1 ao m c (ivs D) :: R)) (hV : VOK V) (h : learnOk V q = true)
    (K : ∀ ao' m' c' w', St W w' (RdH W 1 ao' m' c' (ivs (learnD V D q)) :: R) → post (.returned (.tuple #[.agg (refCells (learnV V D q)).toArray, .slice ao' m' c', .bool true])) w') :
    Calls Try.prog 34 #[.agg (refCells V).toArray, .slice ao m c, .int .i64 q] w post := by
  unfold learnV learnD at K
  simp only [h, if_true] at K
  have HK := hid K; clear K
  obtain ⟨hn, hse, hna, hnp⟩ := learnOk_iff.1 h
  obtain ⟨q0, q1⟩ := nodeB_iff.1 hn
  have HN := hid hn
  obtain ⟨k, rfl⟩ := Int.eq_ofNat_of_zero_le q0
  have hk : k < 12 := by omega
  have hb : ((k : Int) == V.self) = false := by simpa using hse
  have HA := hid (memB_no hna)
  have HB := hid (memB_no hnp)
  have HP := hid hV.sp; have HPN := hid (show ∀ x ∈ V.p, nodeB x = true from fun x hx => (hV.np x hx).1)
  have hpm := hV.pm.1
  clear hn h hV hse hna hnp
  go_enter Try.func34, Try.ntmps34
  go_wp2_with (first
    | (refine wpl_boxA (vs := refCells V) rfl (.tmp 0) rfl rfl st ?_; rintro B w1 s1)
    | (refine wpl_allocA rfl rfl zero41 s1 ?_; rintro E w2 s2'; have s2 := St.pick 1 s2'; clear s2'; have h0 := ref_self s2; have h1 := ref_a s2 hk; rw [HA.out] at h1; have h2 := ref_p s2 hk; rw [HB.out] at h2)
    | (go_at_call 18; refine rnode_c ?_; rw [HN.out])
    | (refine wpl_loadA (vs := refCells V) rfl (.tmp 3) (by rfl) agg41 (by rfl) (refCells_len _) s2.rowAll ?_)
    | (go_at_call 50; refine aside_c (V := V) (q := k) (St.pick 2 s2) HP.out HPN.out hpm HN.out ?_; rintro aE mE cE wE sE)
    | (refine wpl_storeA (vs := refCells { V with p := addL D V.p V.pm k }) rfl (.tmp 3) (.tmp 37) (by rfl) agg41 (by rfl) (by rfl) (refCells_len _) (refCells_one _) (St.pick 1 sE) (refCells_len _) ?_; rintro w11 s11)
    | (refine wpl_loadA (vs := refCells { V with p := addL D V.p V.pm k }) rfl (.tmp 3) (by rfl) agg41 (by rfl) (refCells_len _) s11.rowAll ?_)
    | (refine wpl_storeA (vs := refCells { V with p := addL D V.p V.pm k }) rfl (.tmp 6) (.tmp 39) (by rfl) agg41 (by rfl) (by rfl) (refCells_len _) (refCells_one _) (St.pick 2 s11) rfl ?_; rintro w12 s12))
  have hL := run_loadA agg41 (refCells_len _) s12.rowAll
  exact bodyPost_ret (v := .tuple #[.agg (refCells { V with p := addL D V.p V.pm k }).toArray, .slice aE mE cE, .bool true]) (by simp [results, Try.results34, asAddr, hL]) rfl (HK.out _ _ _ _ (s12.dropN 2))

end

end Go.Proofs.Ytnibgchgcggfbac
