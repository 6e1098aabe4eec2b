/- The reference's views: Raise, Lower, Learn. -/
import Derived.Test.YtnibgchgcggfbacRefB
namespace Go.Proofs.Ytnibgchgcggfbac
open Go.RowKit Go.Qd

section
variable {W w : World} {R : List HP} {post : Ending → World → Prop} {V : VV} {ao : Option Addr} {m c : Nat} {D : List Int} {q : Int}

set_option maxRecDepth 100000 in
set_option maxHeartbeats 800000 in
theorem rraise_no (st : St W w (RdH W 1 ao m c (ivs D) :: R)) (h : raiseOk V q = false)
    (K : ∀ w', St W w' (RdH W 1 ao m c (ivs D) :: R) → post (.returned (.tuple #[.agg (refCells V).toArray, .slice ao m c, .int .i64 (-1), .bool false])) w') :
    Calls Try.prog 32 #[.agg (refCells V).toArray, .slice ao m c, .int .i64 q] w post := by
  have HK := hid K; clear K
  by_cases hn : nodeB q = true
  · obtain ⟨q0, q1⟩ := nodeB_iff.1 hn
    have HN := hid hn
    obtain ⟨k, rfl⟩ := Int.eq_ofNat_of_zero_le q0
    have hk : k < 12 := by omega
    by_cases hse : (k : Int) = V.self
    · have hb : ((k : Int) == V.self) = true := by simpa using hse
      clear hn h hse
      go_enter Try.func32, Try.ntmps32
      go_wp2_with (first
        | (refine wpl_boxA (vs := refCells V) rfl (.tmp 0) rfl rfl st ?_; rintro B w1 s1)
        | (refine wpl_allocA rfl rfl zero41 s1 ?_; rintro E w2 s2; have h0 := ref_self (St.pick 1 s2))
        | (go_at_call 18; refine rnode_c ?_; rw [HN.out])
        | (refine wpl_loadA (vs := refCells V) rfl (.tmp 3) (by rfl) agg41 (by rfl) (refCells_len _) (St.pick 1 s2).rowAll ?_)
        | (refine wpl_storeA (vs := refCells V) rfl (.tmp 6) (.tmp 29) (by rfl) agg41 (by rfl) (by rfl) (refCells_len _) (refCells_one _) s2 rfl ?_; rintro w3 s3))
      have hL := run_loadA agg41 (refCells_len _) s3.rowAll
      exact bodyPost_ret (v := .tuple #[.agg (refCells V).toArray, .slice ao m c, .int .i64 (-1), .bool false]) (by simp [results, Try.results32, asAddr, hL]) rfl (HK.out _ (s3.dropN 2))
    · have hb : ((k : Int) == V.self) = false := by simpa using hse
      have hm : memB V.a (k : Int) = true := by
        cases hx : memB V.a (k : Int) with
        | true => rfl
        | false => exact absurd (raiseOk_iff.2 ⟨hn, hse, memB_false hx⟩) (by rw [h]; simp)
      have HM := hid hm
      clear hn h hse hm
      go_enter Try.func32, Try.ntmps32
      go_wp2_with (first
        | (refine wpl_boxA (vs := refCells V) rfl (.tmp 0) rfl rfl st ?_; rintro B w1 s1)
        | (refine wpl_allocA rfl rfl zero41 s1 ?_; rintro E w2 s2; have h0 := ref_self (St.pick 1 s2); have h1 := ref_a (St.pick 1 s2) hk; rw [HM.out] at h1)
        | (go_at_call 18; refine rnode_c ?_; rw [HN.out])
        | (refine wpl_loadA (vs := refCells V) rfl (.tmp 3) (by rfl) agg41 (by rfl) (refCells_len _) (St.pick 1 s2).rowAll ?_)
        | (refine wpl_storeA (vs := refCells V) rfl (.tmp 6) (.tmp 29) (by rfl) agg41 (by rfl) (by rfl) (refCells_len _) (refCells_one _) s2 rfl ?_; rintro w3 s3))
      have hL := run_loadA agg41 (refCells_len _) s3.rowAll
      exact bodyPost_ret (v := .tuple #[.agg (refCells V).toArray, .slice ao m c, .int .i64 (-1), .bool false]) (by simp [results, Try.results32, asAddr, hL]) rfl (HK.out _ (s3.dropN 2))
  · have hnf : nodeB q = false := by simpa using hn
    have HN := hid hnf
    clear hn h hnf
    go_enter Try.func32, Try.ntmps32
    go_wp2_with (first
      | (refine wpl_boxA (vs := refCells V) rfl (.tmp 0) rfl rfl st ?_; rintro B w1 s1)
      | (refine wpl_allocA rfl rfl zero41 s1 ?_; rintro E w2 s2)
      | (go_at_call 18; refine rnode_c ?_; rw [HN.out])
      | (refine wpl_loadA (vs := refCells V) rfl (.tmp 3) (by rfl) agg41 (by rfl) (refCells_len _) (St.pick 1 s2).rowAll ?_)
      | (refine wpl_storeA (vs := refCells V) rfl (.tmp 6) (.tmp 29) (by rfl) agg41 (by rfl) (by rfl) (refCells_len _) (refCells_one _) s2 rfl ?_; rintro w3 s3))
    have hL := run_loadA agg41 (refCells_len _) s3.rowAll
    exact bodyPost_ret (v := .tuple #[.agg (refCells V).toArray, .slice ao m c, .int .i64 (-1), .bool false]) (by simp [results, Try.results32, asAddr, hL]) rfl (HK.out _ (s3.dropN 2))

set_option maxRecDepth 100000 in
set_option maxHeartbeats 1600000 in
theorem rraise_yes (st : St W w (RdH W 1 ao m c (ivs D) :: R)) (hV : VOK V) (h : raiseOk V q = true)
    (K : ∀ ao' m' c' w', St W w' (RdH W 1 ao' m' c' (ivs (raiseD V D q)) :: R) → post (.returned (.tuple #[.agg (refCells (raiseV V D q)).toArray, .slice ao' m' c', .int .i64 (raiseG V D), .bool true])) w') :
    Calls Try.prog 32 #[.agg (refCells V).toArray, .slice ao m c, .int .i64 q] w post := by
  unfold raiseV raiseD at K
  simp only [h, if_true] at K
  have HK := hid K; clear K
  obtain ⟨hn, hse, hna⟩ := raiseOk_iff.1 h
  obtain ⟨q0, q1⟩ := nodeB_iff.1 hn
  have HN := hid hn
  obtain ⟨k, rfl⟩ := Int.eq_ofNat_of_zero_le q0
  have hk : k < 12 := by omega
  have hb : ((k : Int) == V.self) = false := by simpa using hse
  have HM := hid (memB_no hna)
  have HA := hid hV.sa; have HP := hid (dropL_sorted hV.sp (k : Int)); have HAN := hid (fun x hx => (hV.na x hx).1); have HPN := hid (show ∀ x ∈ dropL V.p (k : Int), nodeB x = true from fun x hx => (hV.np x (mem_dropL.1 hx).1).1)
  have hpm := hV.pm.1
  have ham := hV.am.1
  clear hn h hse hna
  by_cases hf : V.am ≤ V.a.length
  · have hne : V.a ≠ [] := full_ne ham hf
    have hmem := pickV_mem (D := D) hne
    obtain ⟨g0, g1⟩ := nodeB_iff.1 (HAN.out _ hmem)
    have hb1 : V.a.length ≤ 4611686018427387904 := Nat.le_trans (rangeN HA.out HAN.out) (by decide)
    have e1 : raiseG V D = pickV D V.a := by unfold raiseG addG; rw [if_pos hf]
    have e2 : raiseA V D (k : Int) = insL (dropL V.a (pickV D V.a)) (k : Int) := by unfold raiseA addL; rw [if_pos hf]
    have e3 : raiseD1 V D = drawL D V.a.length := by unfold raiseD1 addD; rw [if_pos hf]
    simp only [e1, e2, e3, if_pos g0] at HK
    obtain ⟨gn, hgn⟩ := Int.eq_ofNat_of_zero_le g0
    rw [hgn] at g0 g1 HK
    have HG := hid hgn
    have hg : gn < 12 := by omega
    have HNE := hid hne
    have hF := hid (show decide (V.am ≤ (V.a.length : Int)) = true by simpa using hf)
    have HGN := hid (show nodeB (gn : Int) = true from nodeB_iff.2 ⟨g0, g1⟩)
    clear e1 e2 e3 hgn hmem hne hf hV
    go_enter Try.func32, Try.ntmps32
    go_wp2_with (first
      | (refine wpl_boxA (vs := refCells V) rfl (.tmp 0) rfl rfl st ?_; rintro B w1 s1)
      | (refine wpl_allocA rfl rfl zero41 s1 ?_; rintro E w2 s2'; have s2 := St.pick 1 s2'; clear s2'; have h0 := ref_self s2; have h1 := ref_a s2 hk; rw [HM.out] at h1; have q2 := ref_p s2 hk; have q3 := ref_free s2 (i := 13 + k) (by omega); have s3 := ref_setP s2 hk (.bool false) (bits_drop V.p k))
      | (go_at_call 18; refine rnode_c ?_; rw [HN.out])
      | (refine wpl_loadA (vs := refCells { V with p := dropL V.p k }) rfl (.tmp 3) (by rfl) agg41 (by rfl) (refCells_len _) s3.rowAll ?_)
      | (go_at_call 38; refine rfull_c (V := { V with p := dropL V.p k }) s3 HA.out HAN.out ?_; rintro w4 s4; rw [hF.out])
      | (refine wpl_loadA (vs := bits V.a) rfl (.tmp 38) (by rfl) agg39 (by rfl) (bits_len V.a) (ref_ra (V := { V with p := dropL V.p k }) s4) ?_)
      | (go_at_call 36; refine list_c s4 HA.out HAN.out ?_; rintro a6 c6 w6 s6)
      | (go_at_call 49; refine refPick_c (l := D) (zs := V.a) (St.pick 3 s6) OwnS.rds hb1 ?_; rintro a7 c7 qq s7; simp only [if_neg HNE.out, HG.out] at s7 ⊢; have s8 := St.pick 2 s7; generalize w6.drewN qq = w7 at s8 ⊢; have q4 := ref_a s8 hg; have q5 := ref_free s8 (i := 1 + gn) (by omega); have s9 := ref_setA s8 hg (.bool false) (bits_drop V.a gn); have q6 := ref_a s9 hk; have q7 := ref_free s9 (i := 1 + k) (by omega); have s10 := ref_setA s9 hk (.bool true) (bits_ins (dropL V.a gn) k); clear s7 s8 s9)
      | (refine wpl_loadA (vs := refCells { V with a := insL (dropL V.a gn) k, p := dropL V.p k }) rfl (.tmp 3) (by rfl) agg41 (by rfl) (refCells_len _) s10.rowAll ?_)
      | (go_at_call 50; refine aside_c (V := { V with a := insL (dropL V.a gn) k, p := dropL V.p k }) (q := gn) (St.pick 1 s10) HP.out HPN.out hpm HGN.out ?_; rintro aE mE cE wE sE)
      | (refine wpl_storeA (vs := refCells { V with a := insL (dropL V.a gn) k, p := addL (drawL D V.a.length) (dropL V.p k) V.pm gn }) rfl (.tmp 3) (.tmp 60) (by rfl) agg41 (by rfl) (by rfl) (refCells_len _) (refCells_one _) (St.pick 1 sE) (refCells_len _) ?_; rintro w11 s11)
      | (refine wpl_loadA (vs := refCells { V with a := insL (dropL V.a gn) k, p := addL (drawL D V.a.length) (dropL V.p k) V.pm gn }) rfl (.tmp 3) (by rfl) agg41 (by rfl) (refCells_len _) s11.rowAll ?_)
      | (refine wpl_storeA (vs := refCells { V with a := insL (dropL V.a gn) k, p := addL (drawL D V.a.length) (dropL V.p k) V.pm gn }) rfl (.tmp 6) (.tmp 62) (by rfl) agg41 (by rfl) (by rfl) (refCells_len _) (refCells_one _) (St.pick 3 s11) rfl ?_; rintro w12 s12))
    have hL := run_loadA agg41 (refCells_len _) s12.rowAll
    exact bodyPost_ret (v := .tuple #[.agg (refCells { V with a := insL (dropL V.a gn) k, p := addL (drawL D V.a.length) (dropL V.p k) V.pm gn }).toArray, .slice aE mE cE, .int .i64 gn, .bool true]) (by simp [results, Try.results32, asAddr, hL]) rfl (HK.out _ _ _ _ (St.pick 1 (s12.dropN 2)).drop)
  · have e1 : raiseG V D = -1 := raiseG_room hf
    have e2 : raiseA V D (k : Int) = insL V.a (k : Int) := by unfold raiseA addL; rw [if_neg hf]
    have e3 : raiseD1 V D = D := by unfold raiseD1 addD; rw [if_neg hf]
    simp only [e1, e2, e3, if_neg (by decide : ¬ (0 : Int) ≤ -1)] at HK
    have hF := hid (show decide (V.am ≤ (V.a.length : Int)) = false by simpa using hf)
    clear e1 e2 e3 hf hV
    go_enter Try.func32, Try.ntmps32
    go_wp2_with (first
      | (refine wpl_boxA (vs := refCells V) rfl (.tmp 0) rfl rfl st ?_; rintro B w1 s1)
      | (refine wpl_allocA rfl rfl zero41 s1 ?_; rintro E w2 s2'; have s2 := St.pick 1 s2'; clear s2'; have h0 := ref_self s2; have h1 := ref_a s2 hk; rw [HM.out] at h1; have q2 := ref_p s2 hk; have q3 := ref_free s2 (i := 13 + k) (by omega); have s3 := ref_setP s2 hk (.bool false) (bits_drop V.p k))
      | (go_at_call 18; refine rnode_c ?_; rw [HN.out])
      | (refine wpl_loadA (vs := refCells { V with p := dropL V.p k }) rfl (.tmp 3) (by rfl) agg41 (by rfl) (refCells_len _) s3.rowAll ?_)
      | (go_at_call 38; refine rfull_c (V := { V with p := dropL V.p k }) s3 HA.out HAN.out ?_; rintro w4 s4; rw [hF.out]; have q6 := ref_a s4 hk; have q7 := ref_free s4 (i := 1 + k) (by omega); have s10 := ref_setA s4 hk (.bool true) (bits_ins V.a k))
      | (refine wpl_loadA (vs := refCells { V with a := insL V.a k, p := dropL V.p k }) rfl (.tmp 3) (by rfl) agg41 (by rfl) (refCells_len _) s10.rowAll ?_)
      | (refine wpl_storeA (vs := refCells { V with a := insL V.a k, p := dropL V.p k }) rfl (.tmp 6) (.tmp 62) (by rfl) agg41 (by rfl) (by rfl) (refCells_len _) (refCells_one _) (St.pick 1 s10) rfl ?_; rintro w11 s11))
    have hL := run_loadA agg41 (refCells_len _) s11.rowAll
    exact bodyPost_ret (v := .tuple #[.agg (refCells { V with a := insL V.a k, p := dropL V.p k }).toArray, .slice ao m c, .int .i64 (-1), .bool true]) (by simp [results, Try.results32, asAddr, hL]) rfl (HK.out _ _ _ _ (s11.dropN 2))

end

end Go.Proofs.Ytnibgchgcggfbac
