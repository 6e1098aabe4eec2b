/- The reference's views: Node, New, Full, Known. -/
import Derived.Test.YtnibgchgcggfbacRefA
namespace Go.Proofs.Ytnibgchgcggfbac
open Go.RowKit Go.Qd

theorem hi39 (l : List Int) : (Try.prog.info? 39).map (·.size) = some (bits l).length := by rw [bits_len]; exact agg39.size
theorem hi41 (V : VV) : (Try.prog.info? 41).map (·.size) = some (refCells V).length := by rw [refCells_len]; exact agg41.size

section
variable {W w : World} {R : List HP} {post : Ending → World → Prop} {B : Nat} {V : VV}

theorem rnode_c {p : Int} (K : post (.returned (.bool (nodeB p))) w) : Calls Try.prog 18 #[.int .i64 p] w post := by
  unfold nodeB at K
  by_cases h : 0 ≤ p
  · rw [decide_eq_true h, Bool.true_and] at K
    have HK := hid K; clear K
    go_enter Try.func18, Try.ntmps18
    go_wp2
    exact HK.out
  · rw [decide_eq_false h, Bool.false_and] at K
    have HK := hid K; clear K
    go_enter Try.func18, Try.ntmps18
    go_wp2
    exact HK.out

set_option maxRecDepth 100000 in
theorem rfull_c (st : St W w R) (hs : V.a.Pairwise (· < ·)) (hn : ∀ x ∈ V.a, nodeB x = true)
    (K : ∀ w', St W w' R → post (.returned (.bool (decide (V.am ≤ V.a.length)))) w') : Calls Try.prog 38 #[.agg (refCells V).toArray] w post := by
  have HK := hid K; clear K
  have HS := hid hs; have HN := hid hn
  clear hs hn
  go_enter Try.func38, Try.ntmps38
  go_wp2_with (first
    | (refine wpl_boxA (vs := refCells V) rfl (.tmp 0) rfl rfl st ?_; rintro B w1 s1))
  have hu := Try.underlying39
  have hi := hi39 V.a
  have hl := bits_len V.a
  have h1 := ref_ra s1.drew
  have h2 := ref_am s1.drew
  have s2 := s1.drew
  go_region_held3 (fun w' => w'.rangeAt B 1 (bits V.a) ∧ w'.cell? ⟨B, 25, none⟩ = some (iv V.am))
    (first | exact ⟨h1, h2⟩ | exact ⟨ref_ra (St.pick 1 s3), ref_am (St.pick 1 s3)⟩)
    (first | (go_at_call 36; refine list_c s2 HS.out HN.out ?_; rintro a3 c3 w3 s3))
  go_wp2
  exact HK.out _ s3.drop.drop

theorem rknown_c {L : List Int} (st : St W w R) (hs : L.Pairwise (· < ·)) (hn : ∀ x ∈ L, nodeB x = true) (hm : ∀ p : Nat, p < 12 → memB L (p : Int) = (memB V.a (p : Int) || memB V.p (p : Int)))
    (K : ∀ ao c w', St W w' (OwnS 1 ao L.length c (ivs L) :: R) → post (.returned (.slice ao L.length c)) w') : Calls Try.prog 37 #[.agg (refCells V).toArray] w post := by
  have HK := hid K; clear K
  have HS := hid hs; have HN := hid hn; have HM := hid hm
  clear hs hn hm
  go_enter Try.func37, Try.ntmps37
  go_wp2_with (first
    | (refine wpl_boxA (vs := refCells V) rfl (.tmp 0) rfl rfl st ?_; rintro B w1 s1; have s2 := OwnS.empty (sz := 1) (s1.alloc #[] 3).drop (some ⟨w1.heap.size, 0, none⟩)))
  go_loopw [3, 4] (fun ov iv' wr => ∃ (k n c : Nat) (a : Option Addr), k ≤ 12 ∧ iv' = .int .i64 k ∧ ov = .slice a n c ∧ n ≤ k ∧ St W wr (OwnS 1 a n c (ivs (below L k)) :: row B 0 (refCells V) :: R)) (fun _ iv' _ => 12 - (intOf iv').toNat)
  case atStart => exact ⟨0, 0, 0, _, by omega, rfl, rfl, Nat.le_refl _, by rw [below_zero HN.out]; exact s2⟩
  case round =>
    obtain ⟨k, n, c, a, hk, rfl, rfl, hnk, sr⟩ := hrel
    by_cases hlt : k < 12
    · have hc1 := ref_a (St.pick 1 sr) hlt
      have hc2 := ref_p (St.pick 1 sr) hlt
      have hor := HM.out k hlt
      have hk0 : (0 : Int) ≤ (k : Int) := by omega
      have hk1 : (k : Int) < 12 := by omega
      obtain ⟨mb, hmb⟩ : ∃ mb, memB L (k : Int) = mb := ⟨_, rfl⟩
      obtain ⟨ma, hma⟩ : ∃ ma, memB V.a (k : Int) = ma := ⟨_, rfl⟩
      obtain ⟨mp, hmp⟩ : ∃ mp, memB V.p (k : Int) = mp := ⟨_, rfl⟩
      rw [hma] at hc1
      rw [hmp] at hc2
      rw [hmb, hma, hmp] at hor
      clear hma hmp
      cases mb with
      | true =>
        have HE := hid (below_yes HS.out (memB_iff.1 hmb))
        clear hmb
        have s3 := sr.alloc #[.int .i64 (k : Int)] 3
        have hb1 : (n + 1) * 8 ≤ 140737488355328 := by omega
        have hm1 : n + 1 ≤ maxLen := by unfold maxLen; omega
        cases ma with
        | true =>
          clear hor
          go_wp2_with (at_builtin; refine wpl_append rfl (.tmp 20) (.tmp 22) rfl Try.elem22 rfl rfl (St.pick 1 s3) (St.rowRd (n := 1) s3 rfl (by decide) (ivs_one [(k : Int)])) hb1 hm1 ?_; rintro a4 c4 w4 s4)
          go_roundw
          case rel => exact ⟨k + 1, n + 1, c4, a4, by omega, by go_num, rfl, by omega, by rw [HE.out, ivs_append]; exact (St.pick 1 s4).drop⟩
          case measure => simp [intOf]; omega
        | false =>
          simp only [Bool.false_or] at hor
          subst hor
          go_wp2_with (at_builtin; refine wpl_append rfl (.tmp 20) (.tmp 22) rfl Try.elem22 rfl rfl (St.pick 1 s3) (St.rowRd (n := 1) s3 rfl (by decide) (ivs_one [(k : Int)])) hb1 hm1 ?_; rintro a4 c4 w4 s4)
          go_roundw
          case rel => exact ⟨k + 1, n + 1, c4, a4, by omega, by go_num, rfl, by omega, by rw [HE.out, ivs_append]; exact (St.pick 1 s4).drop⟩
          case measure => simp [intOf]; omega
      | false =>
        have HE := hid (below_no (memB_false hmb))
        clear hmb
        have hor2 := Bool.or_eq_false_iff.1 hor.symm
        obtain ⟨rfl, rfl⟩ := hor2
        clear hor
        go_wp2
        go_roundw
        case rel => exact ⟨k + 1, n, c, a, by omega, by go_num, rfl, by omega, by rw [HE.out]; exact sr⟩
        case measure => simp [intOf]; omega
    · have hk12 : k = 12 := by omega
      subst hk12
      have hl := ivs_len (OwnS.rd sr)
      rw [below_all HN.out] at hl sr
      subst hl
      go_wp2
      exact HK.out _ _ _ (St.pick 1 sr).drop

theorem rangeN {l : List Int} (hs : l.Pairwise (· < ·)) (hn : ∀ x ∈ l, nodeB x = true) : l.length ≤ 12 := by
  have := below_le (k := 12) hs hn; rwa [below_all hn] at this

set_option maxRecDepth 100000 in
set_option maxHeartbeats 800000 in
theorem aside_c {ao : Option Addr} {m c : Nat} {D : List Int} {q : Int} (st : St W w (RdH W 1 ao m c (ivs D) :: R)) (hs : V.p.Pairwise (· < ·)) (hn : ∀ x ∈ V.p, nodeB x = true) (hpm : 1 ≤ V.pm) (hq : nodeB q = true)
    (K : ∀ ao' m' c' w', St W w' (RdH W 1 ao' m' c' (ivs (addD D V.p V.pm)) :: R) → post (.returned (.tuple #[.agg (refCells { V with p := addL D V.p V.pm q }).toArray, .slice ao' m' c'])) w') :
    Calls Try.prog 50 #[.agg (refCells V).toArray, .slice ao m c, .int .i64 q] w post := by
  have HK := hid K; clear K
  have HS := hid hs; have HN := hid hn
  clear hs hn
  obtain ⟨q0, q1⟩ := nodeB_iff.1 hq
  obtain ⟨k, rfl⟩ := Int.eq_ofNat_of_zero_le q0
  have hk : k < 12 := by omega
  clear hq
  go_enter Try.func50, Try.ntmps50
  go_wp2_with (first
    | (refine wpl_boxA (vs := refCells V) rfl (.tmp 0) rfl rfl st ?_; rintro B w1 s1)
    | (refine wpl_allocA rfl rfl zero41 s1 ?_; rintro E w2 s2))
  have hu := Try.underlying39
  have hi := hi39 V.p
  have hl := bits_len V.p
  have s3 := s2.drew
  have h1 := ref_rp (St.pick 1 s3)
  have h2 := ref_pm (St.pick 1 s3)
  go_region_held3 (fun w' => w'.rangeAt B 13 (bits V.p) ∧ w'.cell? ⟨B, 26, none⟩ = some (iv V.pm))
    (first | exact ⟨h1, h2⟩ | exact ⟨ref_rp (St.pick 2 s4), ref_pm (St.pick 2 s4)⟩)
    (first | (go_at_call 36; refine list_c s3 HS.out HN.out ?_; rintro a4 c4 w4 s4))
  have s5 := s4.drop
  clear h1 h2 s1 s2 s3 s4
  by_cases hf : V.pm ≤ V.p.length
  · have hne : V.p ≠ [] := full_ne hpm hf
    have hmem := pickV_mem (D := D) hne
    obtain ⟨g0, g1⟩ := nodeB_iff.1 (HN.out _ hmem)
    have hb1 : V.p.length ≤ 4611686018427387904 := Nat.le_trans (rangeN HS.out HN.out) (by decide)
    have e1 : addD D V.p V.pm = drawL D V.p.length := by unfold addD; rw [if_pos hf]
    have e2 : addL D V.p V.pm (k : Int) = insL (dropL V.p (pickV D V.p)) (k : Int) := by unfold addL; rw [if_pos hf]
    rw [e1, e2] at HK
    obtain ⟨gn, hgn⟩ := Int.eq_ofNat_of_zero_le g0
    rw [hgn] at g0 g1 HK
    have HG := hid hgn
    have hg : gn < 12 := by omega
    have HNE := hid hne
    clear e1 e2 hgn hmem hne
    go_wp2_with (first
      | (refine wpl_loadA (vs := bits V.p) rfl (.tmp 20) (by rfl) agg39 (by rfl) (bits_len V.p) (ref_rp (St.pick 1 s5)) ?_)
      | (go_at_call 36; refine list_c s5 HS.out HN.out ?_; rintro a6 c6 w6 s6)
      | (go_at_call 49; refine refPick_c (l := D) (zs := V.p) (St.pick 3 s6) OwnS.rds hb1 ?_; rintro a7 c7 qq s7; simp only [if_neg HNE.out, HG.out] at s7 ⊢; have s8 := St.pick 3 s7; generalize w6.drewN qq = w7 at s8 ⊢; have q1 := ref_p s8 hg; have q2 := ref_free s8 (i := 13 + gn) (by omega); have s9 := ref_setP s8 hg (.bool false) (bits_drop V.p gn); have q3 := ref_p s9 hk; have q4 := ref_free s9 (i := 13 + k) (by omega); have s10 := ref_setP s9 hk (.bool true) (bits_ins (dropL V.p gn) k); clear s7 s8 s9)
      | (refine wpl_loadA (vs := refCells { V with p := insL (dropL V.p gn) k }) rfl (.tmp 3) (by rfl) agg41 (by rfl) (refCells_len _) s10.rowAll ?_)
      | (refine wpl_storeA (vs := refCells { V with p := insL (dropL V.p gn) k }) rfl (.tmp 6) (.tmp 34) (by rfl) agg41 (by rfl) (by rfl) (refCells_len _) (refCells_one _) (St.pick 3 s10) rfl ?_; rintro w11 s11))
    have hL := run_loadA agg41 (refCells_len _) s11.rowAll
    exact bodyPost_ret (v := .tuple #[.agg (refCells { V with p := insL (dropL V.p gn) k }).toArray, .slice a7 (drawL D V.p.length).length c7]) (by simp [results, Try.results50, asAddr, hL]) rfl (HK.out _ _ _ _ (St.pick 1 (s11.dropN 2)).drop)
  · have e1 : addD D V.p V.pm = D := by unfold addD; rw [if_neg hf]
    have e2 : addL D V.p V.pm (k : Int) = insL V.p (k : Int) := by unfold addL; rw [if_neg hf]
    rw [e1, e2] at HK
    clear e1 e2
    have q3 := ref_p (St.pick 1 s5) hk
    have q4 := ref_free (St.pick 1 s5) (i := 13 + k) (by omega)
    have s10 := ref_setP (St.pick 1 s5) hk (.bool true) (bits_ins V.p k)
    go_wp2_with (first
      | (refine wpl_loadA (vs := refCells { V with p := insL V.p k }) rfl (.tmp 3) (by rfl) agg41 (by rfl) (refCells_len _) s10.rowAll ?_)
      | (refine wpl_storeA (vs := refCells { V with p := insL V.p k }) rfl (.tmp 6) (.tmp 34) (by rfl) agg41 (by rfl) (by rfl) (refCells_len _) (refCells_one _) (St.pick 1 s10) rfl ?_; rintro w11 s11))
    have hL := run_loadA agg41 (refCells_len _) s11.rowAll
    exact bodyPost_ret (v := .tuple #[.agg (refCells { V with p := insL V.p k }).toArray, .slice ao m c]) (by simp [results, Try.results50, asAddr, hL]) rfl (HK.out _ _ _ _ (s11.dropN 2))

end

end Go.Proofs.Ytnibgchgcggfbac
