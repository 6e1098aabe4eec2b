/- Refs: several texts, joined. The reference's views: Node, New, Full, Known. -/
import Derived.Test.YtbpdchaeakihkaaGreatRefA
import Derived.Test.YtbpdchaeakihkaaGreatRefDice
import Derived.Deep.RegionHeld3
namespace Go.Proofs.YtbpdchaeakihkaaGreat
open Go.RowKit Go.Qd

theorem hiB12 (l : List Int) : (Tryz.prog.info? 83).map (·.size) = some (bits l).length := by rw [bits_len]; exact aggB12.size
theorem hiRV (V : VV) : (Tryz.prog.info? 93).map (·.size) = some (refCells V).length := by rw [refCells_len]; exact aggRV.size

section
variable {W w : World} {R : List HP} {post : Ending → World → Prop} {B : Nat} {V : VV}

theorem rnode_c {p : Int} (K : post (.returned (.bool (nodeB p))) w) : Calls Tryz.prog 115 #[.int .i64 p] w post := by
  unfold nodeB at K
  by_cases h : 0 ≤ p
  · rw [decide_eq_true h, Bool.true_and] at K
    have HK := hid K; clear K
    go_enter Tryz.func115, Tryz.ntmps115
    go_wp2
    exact HK.out
  · rw [decide_eq_false h, Bool.false_and] at K
    have HK := hid K; clear K
    go_enter Tryz.func115, Tryz.ntmps115
    go_wp2
    exact HK.out

set_option maxRecDepth 100000 in
theorem rfull_c (st : St W w R) (hs : V.a.Pairwise (· < ·)) (hn : ∀ x ∈ V.a, nodeB x = true)
    (K : ∀ w', St W w' R → post (.returned (.bool (decide (V.am ≤ V.a.length)))) w') : Calls Tryz.prog 125 #[.agg (refCells V).toArray] w post := by
  have HK := hid K; clear K
  have HS := hid hs; have HN := hid hn
  clear hs hn
  go_enter Tryz.func125, Tryz.ntmps125
  go_wp2_with (first
    | (refine wpl_boxA (vs := refCells V) rfl (.tmp 0) rfl rfl st ?_; rintro B w1 s1))
  have hu := Tryz.underlying83
  have hi := hiB12 V.a
  have hl := bits_len V.a
  have h1 := ref_ra s1.drew
  have h2 := ref_am s1.drew
  have s2 := s1.drew
  go_region_held3 (fun w' => w'.rangeAt B 1 (bits V.a) ∧ w'.cell? ⟨B, 25, none⟩ = some (iv V.am))
    (first | exact ⟨h1, h2⟩ | exact ⟨ref_ra (St.pick 1 s3), ref_am (St.pick 1 s3)⟩)
    (first | (go_at_call 29; refine list_c s2 HS.out HN.out ?_; rintro a3 c3 w3 s3))
  go_wp2
  exact HK.out _ s3.drop.drop

theorem rknown_c {L : List Int} (st : St W w R) (hs : L.Pairwise (· < ·)) (hn : ∀ x ∈ L, nodeB x = true) (hm : ∀ p : Nat, p < 12 → memB L (p : Int) = (memB V.a (p : Int) || memB V.p (p : Int)))
    (K : ∀ ao c w', St W w' (OwnS 1 ao L.length c (ivs L) :: R) → post (.returned (.slice ao L.length c)) w') : Calls Tryz.prog 77 #[.agg (refCells V).toArray] w post := by
  have HK := hid K; clear K
  have HS := hid hs; have HN := hid hn; have HM := hid hm
  clear hs hn hm
  go_enter Tryz.func77, Tryz.ntmps77
  go_wp2_with (first
    | (refine wpl_boxA (vs := refCells V) rfl (.tmp 0) rfl rfl st ?_; rintro B w1 s1; have s2 := OwnS.empty (sz := 1) (s1.alloc #[] 3).drop (some ⟨w1.heap.size, 0, none⟩)))
  go_loopw [3, 4] (fun ov iv' wr => ∃ (k n c : Nat) (a : Option Addr), k ≤ 12 ∧ iv' = .int .i64 k ∧ ov = .slice a n c ∧ n ≤ k ∧ St W wr (OwnS 1 a n c (ivs (below L k)) :: row B 0 (refCells V) :: R)) (fun _ iv' _ => 12 - (intOf iv').toNat)
  case atStart => exact ⟨0, 0, 0, _, by omega, rfl, rfl, Nat.le_refl _, by rw [below_zero HN.out]; exact s2⟩
  case round =>
    obtain ⟨k, n, c, a, hk, rfl, rfl, hnk, sr⟩ := hrel
    by_cases hlt : k < 12
    · have hc1 := ref_a (St.pick 1 sr) hlt
      have hc2 := ref_p (St.pick 1 sr) hlt
      have hor := HM.out k hlt
      have hk0 : (0 : Int) ≤ (k : Int) := by omega
      have hk1 : (k : Int) < 12 := by omega
      obtain ⟨mb, hmb⟩ : ∃ mb, memB L (k : Int) = mb := ⟨_, rfl⟩
      obtain ⟨ma, hma⟩ : ∃ ma, memB V.a (k : Int) = ma := ⟨_, rfl⟩
      obtain ⟨mp, hmp⟩ : ∃ mp, memB V.p (k : Int) = mp := ⟨_, rfl⟩
      rw [hma] at hc1
      rw [hmp] at hc2
      rw [hmb, hma, hmp] at hor
      clear hma hmp
      cases mb with
      | true =>
        have HE := hid (below_yes HS.out (memB_iff.1 hmb))
        clear hmb
        have s3 := sr.alloc #[.int .i64 (k : Int)] 3
        have hb1 : (n + 1) * 8 ≤ 140737488355328 := by omega
        have hm1 : n + 1 ≤ maxLen := by unfold maxLen; omega
        cases ma with
        | true =>
          clear hor
          go_wp2_with (at_builtin; refine wpl_append rfl (.tmp 20) (.tmp 22) rfl Tryz.elem24 rfl rfl (St.pick 1 s3) (St.rowRd (n := 1) s3 rfl (by decide) (ivs_one [(k : Int)])) hb1 hm1 ?_; rintro a4 c4 w4 s4)
          go_roundw
          case rel => exact ⟨k + 1, n + 1, c4, a4, by omega, by go_num, rfl, by omega, by rw [HE.out, ivs_append]; exact (St.pick 1 s4).drop⟩
          case measure => simp [intOf]; omega
        | false =>
          simp only [Bool.false_or] at hor
          subst hor
          go_wp2_with (at_builtin; refine wpl_append rfl (.tmp 20) (.tmp 22) rfl Tryz.elem24 rfl rfl (St.pick 1 s3) (St.rowRd (n := 1) s3 rfl (by decide) (ivs_one [(k : Int)])) hb1 hm1 ?_; rintro a4 c4 w4 s4)
          go_roundw
          case rel => exact ⟨k + 1, n + 1, c4, a4, by omega, by go_num, rfl, by omega, by rw [HE.out, ivs_append]; exact (St.pick 1 s4).drop⟩
          case measure => simp [intOf]; omega
      | false =>
        have HE := hid (below_no (memB_false hmb))
        clear hmb
        have hor2 := Bool.or_eq_false_iff.1 hor.symm
        obtain ⟨rfl, rfl⟩ := hor2
        clear hor
        go_wp2
        go_roundw
        case rel => exact ⟨k + 1, n, c, a, by omega, by go_num, rfl, by omega, by rw [HE.out]; exact sr⟩
        case measure => simp [intOf]; omega
    · have hk12 : k = 12 := by omega
      subst hk12
      have hl := ivs_len (OwnS.rd sr)
      rw [below_all HN.out] at hl sr
      subst hl
      go_wp2
      exact HK.out _ _ _ (St.pick 1 sr).drop

theorem rangeN {l : List Int} (hs : l.Pairwise (· < ·)) (hn : ∀ x ∈ l, nodeB x = true) : l.length ≤ 12 := by
  have := below_le (k := 12) hs hn; rwa [below_all hn] at this

set_option maxRecDepth 100000 in
set_option maxHeartbeats 800000 in
theorem aside_c {ao : Option Addr} {m c : Nat} {D : List Int} {q : Int} (st : St W w (RdH W 1 ao m c (ivs D) :: R)) (hs : V.p.Pairwise (· < ·)) (hn : ∀ x ∈ V.p, nodeB x = true) (hpm : 1 ≤ V.pm) (hq : nodeB q = true)
    (K : ∀ ao' m' c' w', St W w' (RdH W 1 ao' m' c' (ivs (addD D V.p V.pm)) :: R) → post (.returned (.tuple #[.agg (refCells { V with p := addL D V.p V.pm q }).toArray, .slice ao' m' c'])) w') :
    Calls Tryz.prog 197 #[.agg (refCells V).toArray, .slice ao m c, .int .i64 q] w post := by
  have HK := hid K; clear K
  have HS := hid hs; have HN := hid hn
  clear hs hn
  obtain ⟨q0, q1⟩ := nodeB_iff.1 hq
  obtain ⟨k, rfl⟩ := Int.eq_ofNat_of_zero_le q0
  have hk : k < 12 := by omega
  clear hq
  go_enter Tryz.func197, Tryz.ntmps197
  go_wp2_with (first
    | (refine wpl_boxA (vs := refCells V) rfl (.tmp 0) rfl rfl st ?_; rintro B w1 s1)
    | (refine wpl_allocA rfl rfl zeroRV s1 ?_; rintro E w2 s2))
  have hu := Tryz.underlying83
  have hi := hiB12 V.p
  have hl := bits_len V.p
  have s3 := s2.drew
  have h1 := ref_rp (St.pick 1 s3)
  have h2 := ref_pm (St.pick 1 s3)
  go_region_held3 (fun w' => w'.rangeAt B 13 (bits V.p) ∧ w'.cell? ⟨B, 26, none⟩ = some (iv V.pm))
    (first | exact ⟨h1, h2⟩ | exact ⟨ref_rp (St.pick 2 s4), ref_pm (St.pick 2 s4)⟩)
    (first | (go_at_call 29; refine list_c s3 HS.out HN.out ?_; rintro a4 c4 w4 s4))
  have s5 := s4.drop
  clear h1 h2 s1 s2 s3 s4
  by_cases hf : V.pm ≤ V.p.length
  · have hne : V.p ≠ [] := full_ne hpm hf
    have hmem := pickV_mem (D := D) hne
    obtain ⟨g0, g1⟩ := nodeB_iff.1 (HN.out _ hmem)
    have hb1 : V.p.length ≤ 4611686018427387904 := Nat.le_trans (rangeN HS.out HN.out) (by decide)
    have e1 : addD D V.p V.pm = drawL D V.p.length := by unfold addD; rw [if_pos hf]
    have e2 : addL D V.p V.pm (k : Int) = insL (dropL V.p (pickV D V.p)) (k : Int) := by unfold addL; rw [if_pos hf]
    rw [e1, e2] at HK
    obtain ⟨gn, hgn⟩ := Int.eq_ofNat_of_zero_le g0
    rw [hgn] at g0 g1 HK
    have HG := hid hgn
    have hg : gn < 12 := by omega
    have HNE := hid hne
    clear e1 e2 hgn hmem hne
    go_wp2_with (first
      | (refine wpl_loadA (vs := bits V.p) rfl (.tmp 20) (by rfl) aggB12 (by rfl) (bits_len V.p) (ref_rp (St.pick 1 s5)) ?_)
      | (go_at_call 29; refine list_c s5 HS.out HN.out ?_; rintro a6 c6 w6 s6)
      | (go_at_call 128; refine refPick_c (l := D) (zs := V.p) (St.pick 3 s6) OwnS.rds hb1 ?_; rintro a7 c7 qq s7; simp only [if_neg HNE.out, HG.out] at s7 ⊢; have s8 := St.pick 3 s7; generalize w6.drewN qq = w7 at s8 ⊢; have q1 := ref_p s8 hg; have q2 := ref_free s8 (i := 13 + gn) (by omega); have s9 := ref_setP s8 hg (.bool false) (bits_drop V.p gn); have q3 := ref_p s9 hk; have q4 := ref_free s9 (i := 13 + k) (by omega); have s10 := ref_setP s9 hk (.bool true) (bits_ins (dropL V.p gn) k); clear s7 s8 s9)
      | (refine wpl_loadA (vs := refCells { V with p := insL (dropL V.p gn) k }) rfl (.tmp 3) (by rfl) aggRV (by rfl) (refCells_len _) s10.rowAll ?_)
      | (refine wpl_storeA (vs := refCells { V with p := insL (dropL V.p gn) k }) rfl (.tmp 6) (.tmp 34) (by rfl) aggRV (by rfl) (by rfl) (refCells_len _) (refCells_one _) (St.pick 3 s10) rfl ?_; rintro w11 s11))
    have hL := run_loadA aggRV (refCells_len _) s11.rowAll
    exact bodyPost_ret (v := .tuple #[.agg (refCells { V with p := insL (dropL V.p gn) k }).toArray, .slice a7 (drawL D V.p.length).length c7]) (by simp [results, Tryz.results197, asAddr, hL]) rfl (HK.out _ _ _ _ (St.pick 1 (s11.dropN 2)).drop)
  · have e1 : addD D V.p V.pm = D := by unfold addD; rw [if_neg hf]
    have e2 : addL D V.p V.pm (k : Int) = insL V.p (k : Int) := by unfold addL; rw [if_neg hf]
    rw [e1, e2] at HK
    clear e1 e2
    have q3 := ref_p (St.pick 1 s5) hk
    have q4 := ref_free (St.pick 1 s5) (i := 13 + k) (by omega)
    have s10 := ref_setP (St.pick 1 s5) hk (.bool true) (bits_ins V.p k)
    go_wp2_with (first
      | (refine wpl_loadA (vs := refCells { V with p := insL V.p k }) rfl (.tmp 3) (by rfl) aggRV (by rfl) (refCells_len _) s10.rowAll ?_)
      | (refine wpl_storeA (vs := refCells { V with p := insL V.p k }) rfl (.tmp 6) (.tmp 34) (by rfl) aggRV (by rfl) (by rfl) (refCells_len _) (refCells_one _) (St.pick 1 s10) rfl ?_; rintro w11 s11))
    have hL := run_loadA aggRV (refCells_len _) s11.rowAll
    exact bodyPost_ret (v := .tuple #[.agg (refCells { V with p := insL V.p k }).toArray, .slice ao m c]) (by simp [results, Tryz.results197, asAddr, hL]) rfl (HK.out _ _ _ _ (s11.dropN 2))

end

end Go.Proofs.YtbpdchaeakihkaaGreat

/- The reference's views: Raise, Lower, Learn. -/
namespace Go.Proofs.YtbpdchaeakihkaaGreat
open Go.RowKit Go.Qd

section
variable {W w : World} {R : List HP} {post : Ending → World → Prop} {V : VV} {ao : Option Addr} {m c : Nat} {D : List Int} {q : Int}

set_option maxRecDepth 100000 in
set_option maxHeartbeats 800000 in
theorem rraise_no (st : St W w (RdH W 1 ao m c (ivs D) :: R)) (h : raiseOk V q = false)
    (K : ∀ w', St W w' (RdH W 1 ao m c (ivs D) :: R) → post (.returned (.tuple #[.agg (refCells V).toArray, .slice ao m c, .int .i64 (-1), .bool false])) w') :
    Calls Tryz.prog 158 #[.agg (refCells V).toArray, .slice ao m c, .int .i64 q] w post := by
  have HK := hid K; clear K
  by_cases hn : nodeB q = true
  · obtain ⟨q0, q1⟩ := nodeB_iff.1 hn
    have HN := hid hn
    obtain ⟨k, rfl⟩ := Int.eq_ofNat_of_zero_le q0
    have hk : k < 12 := by omega
    by_cases hse : (k : Int) = V.self
    · have hb : ((k : Int) == V.self) = true := by simpa using hse
      clear hn h hse
      go_enter Tryz.func158, Tryz.ntmps158
      go_wp2_with (first
        | (refine wpl_boxA (vs := refCells V) rfl (.tmp 0) rfl rfl st ?_; rintro B w1 s1)
        | (refine wpl_allocA rfl rfl zeroRV s1 ?_; rintro E w2 s2; have h0 := ref_self (St.pick 1 s2))
        | (go_at_call 115; refine rnode_c ?_; rw [HN.out])
        | (refine wpl_loadA (vs := refCells V) rfl (.tmp 3) (by rfl) aggRV (by rfl) (refCells_len _) (St.pick 1 s2).rowAll ?_)
        | (refine wpl_storeA (vs := refCells V) rfl (.tmp 6) (.tmp 29) (by rfl) aggRV (by rfl) (by rfl) (refCells_len _) (refCells_one _) s2 rfl ?_; rintro w3 s3))
      have hL := run_loadA aggRV (refCells_len _) s3.rowAll
      exact bodyPost_ret (v := .tuple #[.agg (refCells V).toArray, .slice ao m c, .int .i64 (-1), .bool false]) (by simp [results, Tryz.results158, asAddr, hL]) rfl (HK.out _ (s3.dropN 2))
    · have hb : ((k : Int) == V.self) = false := by simpa using hse
      have hm : memB V.a (k : Int) = true := by
        cases hx : memB V.a (k : Int) with
        | true => rfl
        | false => exact absurd (raiseOk_iff.2 ⟨hn, hse, memB_false hx⟩) (by rw [h]; simp)
      have HM := hid hm
      clear hn h hse hm
      go_enter Tryz.func158, Tryz.ntmps158
      go_wp2_with (first
        | (refine wpl_boxA (vs := refCells V) rfl (.tmp 0) rfl rfl st ?_; rintro B w1 s1)
        | (refine wpl_allocA rfl rfl zeroRV s1 ?_; rintro E w2 s2; have h0 := ref_self (St.pick 1 s2); have h1 := ref_a (St.pick 1 s2) hk; rw [HM.out] at h1)
        | (go_at_call 115; refine rnode_c ?_; rw [HN.out])
        | (refine wpl_loadA (vs := refCells V) rfl (.tmp 3) (by rfl) aggRV (by rfl) (refCells_len _) (St.pick 1 s2).rowAll ?_)
        | (refine wpl_storeA (vs := refCells V) rfl (.tmp 6) (.tmp 29) (by rfl) aggRV (by rfl) (by rfl) (refCells_len _) (refCells_one _) s2 rfl ?_; rintro w3 s3))
      have hL := run_loadA aggRV (refCells_len _) s3.rowAll
      exact bodyPost_ret (v := .tuple #[.agg (refCells V).toArray, .slice ao m c, .int .i64 (-1), .bool false]) (by simp [results, Tryz.results158, asAddr, hL]) rfl (HK.out _ (s3.dropN 2))
  · have hnf : nodeB q = false := by simpa using hn
    have HN := hid hnf
    clear hn h hnf
    go_enter Tryz.func158, Tryz.ntmps158
    go_wp2_with (first
      | (refine wpl_boxA (vs := refCells V) rfl (.tmp 0) rfl rfl st ?_; rintro B w1 s1)
      | (refine wpl_allocA rfl rfl zeroRV s1 ?_; rintro E w2 s2)
      | (go_at_call 115; refine rnode_c ?_; rw [HN.out])
      | (refine wpl_loadA (vs := refCells V) rfl (.tmp 3) (by rfl) aggRV (by rfl) (refCells_len _) (St.pick 1 s2).rowAll ?_)
      | (refine wpl_storeA (vs := refCells V) rfl (.tmp 6) (.tmp 29) (by rfl) aggRV (by rfl) (by rfl) (refCells_len _) (refCells_one _) s2 rfl ?_; rintro w3 s3))
    have hL := run_loadA aggRV (refCells_len _) s3.rowAll
    exact bodyPost_ret (v := .tuple #[.agg (refCells V).toArray, .slice ao m c, .int .i64 (-1), .bool false]) (by simp [results, Tryz.results158, asAddr, hL]) rfl (HK.out _ (s3.dropN 2))

set_option maxRecDepth 100000 in
set_option maxHeartbeats 1600000 in
theorem rraise_yes (st : St W w (RdH W 1 ao m c (ivs D) :: R)) (hV : VOK V) (h : raiseOk V q = true)
    (K : ∀ ao' m' c' w', St W w' (RdH W 1 ao' m' c' (ivs (raiseD V D q)) :: R) → post (.returned (.tuple #[.agg (refCells (raiseV V D q)).toArray, .slice ao' m' c', .int .i64 (raiseG V D), .bool true])) w') :
    Calls Tryz.prog 158 #[.agg (refCells V).toArray, .slice ao m c, .int .i64 q] w post := by
  unfold raiseV raiseD at K
  simp only [h, if_true] at K
  have HK := hid K; clear K
  obtain ⟨hn, hse, hna⟩ := raiseOk_iff.1 h
  obtain ⟨q0, q1⟩ := nodeB_iff.1 hn
  have HN := hid hn
  obtain ⟨k, rfl⟩ := Int.eq_ofNat_of_zero_le q0
  have hk : k < 12 := by omega
  have hb : ((k : Int) == V.self) = false := by simpa using hse
  have HM := hid (memB_no hna)
  have HA := hid hV.sa; have HP := hid (dropL_sorted hV.sp (k : Int)); have HAN := hid (fun x hx => (hV.na x hx).1); have HPN := hid (show ∀ x ∈ dropL V.p (k : Int), nodeB x = true from fun x hx => (hV.np x (mem_dropL.1 hx).1).1)
  have hpm := hV.pm.1
  have ham := hV.am.1
  clear hn h hse hna
  by_cases hf : V.am ≤ V.a.length
  · have hne : V.a ≠ [] := full_ne ham hf
    have hmem := pickV_mem (D := D) hne
    obtain ⟨g0, g1⟩ := nodeB_iff.1 (HAN.out _ hmem)
    have hb1 : V.a.length ≤ 4611686018427387904 := Nat.le_trans (rangeN HA.out HAN.out) (by decide)
    have e1 : raiseG V D = pickV D V.a := by unfold raiseG addG; rw [if_pos hf]
    have e2 : raiseA V D (k : Int) = insL (dropL V.a (pickV D V.a)) (k : Int) := by unfold raiseA addL; rw [if_pos hf]
    have e3 : raiseD1 V D = drawL D V.a.length := by unfold raiseD1 addD; rw [if_pos hf]
    simp only [e1, e2, e3, if_pos g0] at HK
    obtain ⟨gn, hgn⟩ := Int.eq_ofNat_of_zero_le g0
    rw [hgn] at g0 g1 HK
    have HG := hid hgn
    have hg : gn < 12 := by omega
    have HNE := hid hne
    have hF := hid (show decide (V.am ≤ (V.a.length : Int)) = true by simpa using hf)
    have HGN := hid (show nodeB (gn : Int) = true from nodeB_iff.2 ⟨g0, g1⟩)
    clear e1 e2 e3 hgn hmem hne hf hV
    go_enter Tryz.func158, Tryz.ntmps158
    go_wp2_with (first
      | (refine wpl_boxA (vs := refCells V) rfl (.tmp 0) rfl rfl st ?_; rintro B w1 s1)
      | (refine wpl_allocA rfl rfl zeroRV s1 ?_; rintro E w2 s2'; have s2 := St.pick 1 s2'; clear s2'; have h0 := ref_self s2; have h1 := ref_a s2 hk; rw [HM.out] at h1; have q2 := ref_p s2 hk; have q3 := ref_free s2 (i := 13 + k) (by omega); have s3 := ref_setP s2 hk (.bool false) (bits_drop V.p k))
      | (go_at_call 115; refine rnode_c ?_; rw [HN.out])
      | (refine wpl_loadA (vs := refCells { V with p := dropL V.p k }) rfl (.tmp 3) (by rfl) aggRV (by rfl) (refCells_len _) s3.rowAll ?_)
      | (go_at_call 125; refine rfull_c (V := { V with p := dropL V.p k }) s3 HA.out HAN.out ?_; rintro w4 s4; rw [hF.out])
      | (refine wpl_loadA (vs := bits V.a) rfl (.tmp 38) (by rfl) aggB12 (by rfl) (bits_len V.a) (ref_ra (V := { V with p := dropL V.p k }) s4) ?_)
      | (go_at_call 29; refine list_c s4 HA.out HAN.out ?_; rintro a6 c6 w6 s6)
      | (go_at_call 128; refine refPick_c (l := D) (zs := V.a) (St.pick 3 s6) OwnS.rds hb1 ?_; rintro a7 c7 qq s7; simp only [if_neg HNE.out, HG.out] at s7 ⊢; have s8 := St.pick 2 s7; generalize w6.drewN qq = w7 at s8 ⊢; have q4 := ref_a s8 hg; have q5 := ref_free s8 (i := 1 + gn) (by omega); have s9 := ref_setA s8 hg (.bool false) (bits_drop V.a gn); have q6 := ref_a s9 hk; have q7 := ref_free s9 (i := 1 + k) (by omega); have s10 := ref_setA s9 hk (.bool true) (bits_ins (dropL V.a gn) k); clear s7 s8 s9)
      | (refine wpl_loadA (vs := refCells { V with a := insL (dropL V.a gn) k, p := dropL V.p k }) rfl (.tmp 3) (by rfl) aggRV (by rfl) (refCells_len _) s10.rowAll ?_)
      | (go_at_call 197; refine aside_c (V := { V with a := insL (dropL V.a gn) k, p := dropL V.p k }) (q := gn) (St.pick 1 s10) HP.out HPN.out hpm HGN.out ?_; rintro aE mE cE wE sE)
      | (refine wpl_storeA (vs := refCells { V with a := insL (dropL V.a gn) k, p := addL (drawL D V.a.length) (dropL V.p k) V.pm gn }) rfl (.tmp 3) (.tmp 60) (by rfl) aggRV (by rfl) (by rfl) (refCells_len _) (refCells_one _) (St.pick 1 sE) (refCells_len _) ?_; rintro w11 s11)
      | (refine wpl_loadA (vs := refCells { V with a := insL (dropL V.a gn) k, p := addL (drawL D V.a.length) (dropL V.p k) V.pm gn }) rfl (.tmp 3) (by rfl) aggRV (by rfl) (refCells_len _) s11.rowAll ?_)
      | (refine wpl_storeA (vs := refCells { V with a := insL (dropL V.a gn) k, p := addL (drawL D V.a.length) (dropL V.p k) V.pm gn }) rfl (.tmp 6) (.tmp 62) (by rfl) aggRV (by rfl) (by rfl) (refCells_len _) (refCells_one _) (St.pick 3 s11) rfl ?_; rintro w12 s12))
    have hL := run_loadA aggRV (refCells_len _) s12.rowAll
    exact bodyPost_ret (v := .tuple #[.agg (refCells { V with a := insL (dropL V.a gn) k, p := addL (drawL D V.a.length) (dropL V.p k) V.pm gn }).toArray, .slice aE mE cE, .int .i64 gn, .bool true]) (by simp [results, Tryz.results158, asAddr, hL]) rfl (HK.out _ _ _ _ (St.pick 1 (s12.dropN 2)).drop)
  · have e1 : raiseG V D = -1 := raiseG_room hf
    have e2 : raiseA V D (k : Int) = insL V.a (k : Int) := by unfold raiseA addL; rw [if_neg hf]
    have e3 : raiseD1 V D = D := by unfold raiseD1 addD; rw [if_neg hf]
    simp only [e1, e2, e3, if_neg (by decide : ¬ (0 : Int) ≤ -1)] at HK
    have hF := hid (show decide (V.am ≤ (V.a.length : Int)) = false by simpa using hf)
    clear e1 e2 e3 hf hV
    go_enter Tryz.func158, Tryz.ntmps158
    go_wp2_with (first
      | (refine wpl_boxA (vs := refCells V) rfl (.tmp 0) rfl rfl st ?_; rintro B w1 s1)
      | (refine wpl_allocA rfl rfl zeroRV s1 ?_; rintro E w2 s2'; have s2 := St.pick 1 s2'; clear s2'; have h0 := ref_self s2; have h1 := ref_a s2 hk; rw [HM.out] at h1; have q2 := ref_p s2 hk; have q3 := ref_free s2 (i := 13 + k) (by omega); have s3 := ref_setP s2 hk (.bool false) (bits_drop V.p k))
      | (go_at_call 115; refine rnode_c ?_; rw [HN.out])
      | (refine wpl_loadA (vs := refCells { V with p := dropL V.p k }) rfl (.tmp 3) (by rfl) aggRV (by rfl) (refCells_len _) s3.rowAll ?_)
      | (go_at_call 125; refine rfull_c (V := { V with p := dropL V.p k }) s3 HA.out HAN.out ?_; rintro w4 s4; rw [hF.out]; have q6 := ref_a s4 hk; have q7 := ref_free s4 (i := 1 + k) (by omega); have s10 := ref_setA s4 hk (.bool true) (bits_ins V.a k))
      | (refine wpl_loadA (vs := refCells { V with a := insL V.a k, p := dropL V.p k }) rfl (.tmp 3) (by rfl) aggRV (by rfl) (refCells_len _) s10.rowAll ?_)
      | (refine wpl_storeA (vs := refCells { V with a := insL V.a k, p := dropL V.p k }) rfl (.tmp 6) (.tmp 62) (by rfl) aggRV (by rfl) (by rfl) (refCells_len _) (refCells_one _) (St.pick 1 s10) rfl ?_; rintro w11 s11))
    have hL := run_loadA aggRV (refCells_len _) s11.rowAll
    exact bodyPost_ret (v := .tuple #[.agg (refCells { V with a := insL V.a k, p := dropL V.p k }).toArray, .slice ao m c, .int .i64 (-1), .bool true]) (by simp [results, Tryz.results158, asAddr, hL]) rfl (HK.out _ _ _ _ (s11.dropN 2))

end

end Go.Proofs.YtbpdchaeakihkaaGreat

/- The reference's views: Lower, Learn. -/
namespace Go.Proofs.YtbpdchaeakihkaaGreat
open Go.RowKit Go.Qd

section
variable {W w : World} {R : List HP} {post : Ending → World → Prop} {V : VV} {ao : Option Addr} {m c : Nat} {D : List Int} {q : Int}

set_option maxRecDepth 100000 in
set_option maxHeartbeats 800000 in
theorem rlower_no (st : St W w (RdH W 1 ao m c (ivs D) :: R)) (h : memB V.a q = false)
    (K : ∀ w', St W w' (RdH W 1 ao m c (ivs D) :: R) → post (.returned (.tuple #[.agg (refCells V).toArray, .slice ao m c, .bool false])) w') :
    Calls Tryz.prog 160 #[.agg (refCells V).toArray, .slice ao m c, .int .i64 q] w post := by
  have HK := hid K; clear K
  have HM := hid h; clear h
  by_cases hn : nodeB q = true
  · obtain ⟨q0, q1⟩ := nodeB_iff.1 hn
    have HN := hid hn
    obtain ⟨k, rfl⟩ := Int.eq_ofNat_of_zero_le q0
    have hk : k < 12 := by omega
    clear hn
    go_enter Tryz.func160, Tryz.ntmps160
    go_wp2_with (first
      | (refine wpl_boxA (vs := refCells V) rfl (.tmp 0) rfl rfl st ?_; rintro B w1 s1)
      | (refine wpl_allocA rfl rfl zeroRV s1 ?_; rintro E w2 s2; have h1 := ref_a (St.pick 1 s2) hk; rw [HM.out] at h1)
      | (go_at_call 115; refine rnode_c ?_; rw [HN.out])
      | (refine wpl_loadA (vs := refCells V) rfl (.tmp 3) (by rfl) aggRV (by rfl) (refCells_len _) (St.pick 1 s2).rowAll ?_)
      | (refine wpl_storeA (vs := refCells V) rfl (.tmp 6) (.tmp 19) (by rfl) aggRV (by rfl) (by rfl) (refCells_len _) (refCells_one _) s2 rfl ?_; rintro w3 s3))
    have hL := run_loadA aggRV (refCells_len _) s3.rowAll
    exact bodyPost_ret (v := .tuple #[.agg (refCells V).toArray, .slice ao m c, .bool false]) (by simp [results, Tryz.results160, asAddr, hL]) rfl (HK.out _ (s3.dropN 2))
  · have hnf : nodeB q = false := by simpa using hn
    have HN := hid hnf
    clear hn hnf
    go_enter Tryz.func160, Tryz.ntmps160
    go_wp2_with (first
      | (refine wpl_boxA (vs := refCells V) rfl (.tmp 0) rfl rfl st ?_; rintro B w1 s1)
      | (refine wpl_allocA rfl rfl zeroRV s1 ?_; rintro E w2 s2)
      | (go_at_call 115; refine rnode_c ?_; rw [HN.out])
      | (refine wpl_loadA (vs := refCells V) rfl (.tmp 3) (by rfl) aggRV (by rfl) (refCells_len _) (St.pick 1 s2).rowAll ?_)
      | (refine wpl_storeA (vs := refCells V) rfl (.tmp 6) (.tmp 19) (by rfl) aggRV (by rfl) (by rfl) (refCells_len _) (refCells_one _) s2 rfl ?_; rintro w3 s3))
    have hL := run_loadA aggRV (refCells_len _) s3.rowAll
    exact bodyPost_ret (v := .tuple #[.agg (refCells V).toArray, .slice ao m c, .bool false]) (by simp [results, Tryz.results160, asAddr, hL]) rfl (HK.out _ (s3.dropN 2))

set_option maxRecDepth 100000 in
set_option maxHeartbeats 800000 in
theorem rlower_yes (st : St W w (RdH W 1 ao m c (ivs D) :: R)) (hV : VOK V) (h : memB V.a q = true)
    (K : ∀ ao' m' c' w', St W w' (RdH W 1 ao' m' c' (ivs (lowerD V D q)) :: R) → post (.returned (.tuple #[.agg (refCells (lowerV V D q)).toArray, .slice ao' m' c', .bool true])) w') :
    Calls Tryz.prog 160 #[.agg (refCells V).toArray, .slice ao m c, .int .i64 q] w post := by
  unfold lowerV lowerD at K
  simp only [h, if_true] at K
  have HK := hid K; clear K
  have hn := (hV.na _ (memB_iff.1 h)).1
  obtain ⟨q0, q1⟩ := nodeB_iff.1 hn
  have HN := hid hn
  obtain ⟨k, rfl⟩ := Int.eq_ofNat_of_zero_le q0
  have hk : k < 12 := by omega
  have HM := hid h
  have HP := hid hV.sp; have HPN := hid (show ∀ x ∈ V.p, nodeB x = true from fun x hx => (hV.np x hx).1)
  have hpm := hV.pm.1
  clear hn h hV
  go_enter Tryz.func160, Tryz.ntmps160
  go_wp2_with (first
    | (refine wpl_boxA (vs := refCells V) rfl (.tmp 0) rfl rfl st ?_; rintro B w1 s1)
    | (refine wpl_allocA rfl rfl zeroRV s1 ?_; rintro E w2 s2'; have s2 := St.pick 1 s2'; clear s2'; have h1 := ref_a s2 hk; rw [HM.out] at h1; have q3 := ref_free s2 (i := 1 + k) (by omega); have s3 := ref_setA s2 hk (.bool false) (bits_drop V.a k))
    | (go_at_call 115; refine rnode_c ?_; rw [HN.out])
    | (refine wpl_loadA (vs := refCells { V with a := dropL V.a k }) rfl (.tmp 3) (by rfl) aggRV (by rfl) (refCells_len _) s3.rowAll ?_)
    | (go_at_call 197; refine aside_c (V := { V with a := dropL V.a k }) (q := k) (St.pick 2 s3) HP.out HPN.out hpm HN.out ?_; rintro aE mE cE wE sE)
    | (refine wpl_storeA (vs := refCells { V with a := dropL V.a k, p := addL D V.p V.pm k }) rfl (.tmp 3) (.tmp 29) (by rfl) aggRV (by rfl) (by rfl) (refCells_len _) (refCells_one _) (St.pick 1 sE) (refCells_len _) ?_; rintro w11 s11)
    | (refine wpl_loadA (vs := refCells { V with a := dropL V.a k, p := addL D V.p V.pm k }) rfl (.tmp 3) (by rfl) aggRV (by rfl) (refCells_len _) s11.rowAll ?_)
    | (refine wpl_storeA (vs := refCells { V with a := dropL V.a k, p := addL D V.p V.pm k }) rfl (.tmp 6) (.tmp 31) (by rfl) aggRV (by rfl) (by rfl) (refCells_len _) (refCells_one _) (St.pick 2 s11) rfl ?_; rintro w12 s12))
  have hL := run_loadA aggRV (refCells_len _) s12.rowAll
  exact bodyPost_ret (v := .tuple #[.agg (refCells { V with a := dropL V.a k, p := addL D V.p V.pm k }).toArray, .slice aE mE cE, .bool true]) (by simp [results, Tryz.results160, asAddr, hL]) rfl (HK.out _ _ _ _ (s12.dropN 2))

set_option maxRecDepth 100000 in
set_option maxHeartbeats 800000 in
theorem rlearn_no (st : St W w (RdH W 1 ao m c (ivs D) :: R)) (h : learnOk V q = false)
    (K : ∀ w', St W w' (RdH W 1 ao m c (ivs D) :: R) → post (.returned (.tuple #[.agg (refCells V).toArray, .slice ao m c, .bool false])) w') :
    Calls Tryz.prog 161 #[.agg (refCells V).toArray, .slice ao m c, .int .i64 q] w post := by
  have HK := hid K; clear K
  by_cases hn : nodeB q = true
  · obtain ⟨q0, q1⟩ := nodeB_iff.1 hn
    have HN := hid hn
    obtain ⟨k, rfl⟩ := Int.eq_ofNat_of_zero_le q0
    have hk : k < 12 := by omega
    by_cases hse : (k : Int) = V.self
    · have hb : ((k : Int) == V.self) = true := by simpa using hse
      clear hn h hse
      go_enter Tryz.func161, Tryz.ntmps161
      go_wp2_with (first
        | (refine wpl_boxA (vs := refCells V) rfl (.tmp 0) rfl rfl st ?_; rintro B w1 s1)
        | (refine wpl_allocA rfl rfl zeroRV s1 ?_; rintro E w2 s2; have h0 := ref_self (St.pick 1 s2))
        | (go_at_call 115; refine rnode_c ?_; rw [HN.out])
        | (refine wpl_loadA (vs := refCells V) rfl (.tmp 3) (by rfl) aggRV (by rfl) (refCells_len _) (St.pick 1 s2).rowAll ?_)
        | (refine wpl_storeA (vs := refCells V) rfl (.tmp 6) (.tmp 30) (by rfl) aggRV (by rfl) (by rfl) (refCells_len _) (refCells_one _) s2 rfl ?_; rintro w3 s3))
      have hL := run_loadA aggRV (refCells_len _) s3.rowAll
      exact bodyPost_ret (v := .tuple #[.agg (refCells V).toArray, .slice ao m c, .bool false]) (by simp [results, Tryz.results161, asAddr, hL]) rfl (HK.out _ (s3.dropN 2))
    · have hb : ((k : Int) == V.self) = false := by simpa using hse
      obtain ⟨ma, hma⟩ : ∃ ma, memB V.a (k : Int) = ma := ⟨_, rfl⟩
      have HA := hid hma
      cases ma with
      | true =>
        clear hn h hse hma
        go_enter Tryz.func161, Tryz.ntmps161
        go_wp2_with (first
          | (refine wpl_boxA (vs := refCells V) rfl (.tmp 0) rfl rfl st ?_; rintro B w1 s1)
          | (refine wpl_allocA rfl rfl zeroRV s1 ?_; rintro E w2 s2; have h0 := ref_self (St.pick 1 s2); have h1 := ref_a (St.pick 1 s2) hk; rw [HA.out] at h1)
          | (go_at_call 115; refine rnode_c ?_; rw [HN.out])
          | (refine wpl_loadA (vs := refCells V) rfl (.tmp 3) (by rfl) aggRV (by rfl) (refCells_len _) (St.pick 1 s2).rowAll ?_)
          | (refine wpl_storeA (vs := refCells V) rfl (.tmp 6) (.tmp 30) (by rfl) aggRV (by rfl) (by rfl) (refCells_len _) (refCells_one _) s2 rfl ?_; rintro w3 s3))
        have hL := run_loadA aggRV (refCells_len _) s3.rowAll
        exact bodyPost_ret (v := .tuple #[.agg (refCells V).toArray, .slice ao m c, .bool false]) (by simp [results, Tryz.results161, asAddr, hL]) rfl (HK.out _ (s3.dropN 2))
      | false =>
        have hmp : memB V.p (k : Int) = true := by
          cases hx : memB V.p (k : Int) with
          | true => rfl
          | false => exact absurd (learnOk_iff.2 ⟨hn, hse, memB_false hma, memB_false hx⟩) (by rw [h]; simp)
        have HP := hid hmp
        clear hn h hse hma hmp
        go_enter Tryz.func161, Tryz.ntmps161
        go_wp2_with (first
          | (refine wpl_boxA (vs := refCells V) rfl (.tmp 0) rfl rfl st ?_; rintro B w1 s1)
          | (refine wpl_allocA rfl rfl zeroRV s1 ?_; rintro E w2 s2; have h0 := ref_self (St.pick 1 s2); have h1 := ref_a (St.pick 1 s2) hk; rw [HA.out] at h1; have h2 := ref_p (St.pick 1 s2) hk; rw [HP.out] at h2)
          | (go_at_call 115; refine rnode_c ?_; rw [HN.out])
          | (refine wpl_loadA (vs := refCells V) rfl (.tmp 3) (by rfl) aggRV (by rfl) (refCells_len _) (St.pick 1 s2).rowAll ?_)
          | (refine wpl_storeA (vs := refCells V) rfl (.tmp 6) (.tmp 30) (by rfl) aggRV (by rfl) (by rfl) (refCells_len _) (refCells_one _) s2 rfl ?_; rintro w3 s3))
        have hL := run_loadA aggRV (refCells_len _) s3.rowAll
        exact bodyPost_ret (v := .tuple #[.agg (refCells V).toArray, .slice ao m c, .bool false]) (by simp [results, Tryz.results161, asAddr, hL]) rfl (HK.out _ (s3.dropN 2))
  · have hnf : nodeB q = false := by simpa using hn
    have HN := hid hnf
    clear hn hnf h
    go_enter Tryz.func161, Tryz.ntmps161
    go_wp2_with (first
      | (refine wpl_boxA (vs := refCells V) rfl (.tmp 0) rfl rfl st ?_; rintro B w1 s1)
      | (refine wpl_allocA rfl rfl zeroRV s1 ?_; rintro E w2 s2)
      | (go_at_call 115; refine rnode_c ?_; rw [HN.out])
      | (refine wpl_loadA (vs := refCells V) rfl (.tmp 3) (by rfl) aggRV (by rfl) (refCells_len _) (St.pick 1 s2).rowAll ?_)
      | (refine wpl_storeA (vs := refCells V) rfl (.tmp 6) (.tmp 30) (by rfl) aggRV (by rfl) (by rfl) (refCells_len _) (refCells_one _) s2 rfl ?_; rintro w3 s3))
    have hL := run_loadA aggRV (refCells_len _) s3.rowAll
    exact bodyPost_ret (v := .tuple #[.agg (refCells V).toArray, .slice ao m c, .bool false]) (by simp [results, Tryz.results161, asAddr, hL]) rfl (HK.out _ (s3.dropN 2))

set_option maxRecDepth 100000 in
set_option maxHeartbeats 800000 in
theorem rlearn_yes (st : St W w (RdH W 1 ao m c (ivs D) :: R)) (hV : VOK V) (h : learnOk V q = true)
    (K : ∀ ao' m' c' w', St W w' (RdH W 1 ao' m' c' (ivs (learnD V D q)) :: R) → post (.returned (.tuple #[.agg (refCells (learnV V D q)).toArray, .slice ao' m' c', .bool true])) w') :
    Calls Tryz.prog 161 #[.agg (refCells V).toArray, .slice ao m c, .int .i64 q] w post := by
  unfold learnV learnD at K
  simp only [h, if_true] at K
  have HK := hid K; clear K
  obtain ⟨hn, hse, hna, hnp⟩ := learnOk_iff.1 h
  obtain ⟨q0, q1⟩ := nodeB_iff.1 hn
  have HN := hid hn
  obtain ⟨k, rfl⟩ := Int.eq_ofNat_of_zero_le q0
  have hk : k < 12 := by omega
  have hb : ((k : Int) == V.self) = false := by simpa using hse
  have HA := hid (memB_no hna)
  have HB := hid (memB_no hnp)
  have HP := hid hV.sp; have HPN := hid (show ∀ x ∈ V.p, nodeB x = true from fun x hx => (hV.np x hx).1)
  have hpm := hV.pm.1
  clear hn h hV hse hna hnp
  go_enter Tryz.func161, Tryz.ntmps161
  go_wp2_with (first
    | (refine wpl_boxA (vs := refCells V) rfl (.tmp 0) rfl rfl st ?_; rintro B w1 s1)
    | (refine wpl_allocA rfl rfl zeroRV s1 ?_; rintro E w2 s2'; have s2 := St.pick 1 s2'; clear s2'; have h0 := ref_self s2; have h1 := ref_a s2 hk; rw [HA.out] at h1; have h2 := ref_p s2 hk; rw [HB.out] at h2)
    | (go_at_call 115; refine rnode_c ?_; rw [HN.out])
    | (refine wpl_loadA (vs := refCells V) rfl (.tmp 3) (by rfl) aggRV (by rfl) (refCells_len _) s2.rowAll ?_)
    | (go_at_call 197; refine aside_c (V := V) (q := k) (St.pick 2 s2) HP.out HPN.out hpm HN.out ?_; rintro aE mE cE wE sE)
    | (refine wpl_storeA (vs := refCells { V with p := addL D V.p V.pm k }) rfl (.tmp 3) (.tmp 37) (by rfl) aggRV (by rfl) (by rfl) (refCells_len _) (refCells_one _) (St.pick 1 sE) (refCells_len _) ?_; rintro w11 s11)
    | (refine wpl_loadA (vs := refCells { V with p := addL D V.p V.pm k }) rfl (.tmp 3) (by rfl) aggRV (by rfl) (refCells_len _) s11.rowAll ?_)
    | (refine wpl_storeA (vs := refCells { V with p := addL D V.p V.pm k }) rfl (.tmp 6) (.tmp 39) (by rfl) aggRV (by rfl) (by rfl) (refCells_len _) (refCells_one _) (St.pick 2 s11) rfl ?_; rintro w12 s12))
  have hL := run_loadA aggRV (refCells_len _) s12.rowAll
  exact bodyPost_ret (v := .tuple #[.agg (refCells { V with p := addL D V.p V.pm k }).toArray, .slice aE mE cE, .bool true]) (by simp [results, Tryz.results161, asAddr, hL]) rfl (HK.out _ _ _ _ (s12.dropN 2))

end

end Go.Proofs.YtbpdchaeakihkaaGreat

/- The reference's views: New. -/
namespace Go.Proofs.YtbpdchaeakihkaaGreat
open Go.RowKit Go.Qd

theorem noneRV_one : ∀ u ∈ noneRV, u.oneCell' = true := by
  intro u hu
  unfold noneRV at hu
  simp only [List.mem_cons, List.mem_append, List.mem_replicate, List.not_mem_nil, or_false] at hu
  rcases hu with rfl | ⟨_, rfl⟩ | rfl | rfl <;> rfl

section
variable {W w : World} {R : List HP} {post : Ending → World → Prop}

set_option maxRecDepth 100000 in
set_option maxHeartbeats 800000 in
theorem rnew_no {self am pm : Int} (st : St W w R) (h : ¬ (nodeB self = true ∧ (1 ≤ am ∧ am < 12) ∧ (1 ≤ pm ∧ pm < 12)))
    (K : ∀ w', St W w' R → post (.returned (.tuple #[.agg noneRV.toArray, .int .i64 1])) w') : Calls Tryz.prog 70 #[.int .i64 self, .int .i64 am, .int .i64 pm] w post := by
  have HK := hid K; clear K
  obtain ⟨nb, hnb⟩ : ∃ nb, nodeB self = nb := ⟨_, rfl⟩
  have HN := hid hnb
  cases nb with
  | false =>
    clear h hnb
    go_enter Tryz.func70, Tryz.ntmps70
    go_wp2_with (first
      | (refine wpl_allocA rfl rfl zeroRV st ?_; rintro E w2 s2)
      | (go_at_call 115; refine rnode_c ?_; rw [HN.out])
      | (refine wpl_storeA (vs := noneRV) rfl (.tmp 6) (.tmp 27) (by rfl) aggRV (by rfl) (by rfl) rfl noneRV_one s2 rfl ?_; rintro w3 s3))
    have hL := run_loadA aggRV (vs := noneRV) rfl s3.rowAll
    exact bodyPost_ret (v := .tuple #[.agg noneRV.toArray, .int .i64 1]) (by simp [results, Tryz.results70, asAddr, hL]) rfl (HK.out _ s3.drop)
  | true =>
    by_cases h1 : am < 1
    · clear h hnb
      go_enter Tryz.func70, Tryz.ntmps70
      go_wp2_with (first
        | (refine wpl_allocA rfl rfl zeroRV st ?_; rintro E w2 s2)
        | (go_at_call 115; refine rnode_c ?_; rw [HN.out])
        | (refine wpl_storeA (vs := noneRV) rfl (.tmp 6) (.tmp 27) (by rfl) aggRV (by rfl) (by rfl) rfl noneRV_one s2 rfl ?_; rintro w3 s3))
      have hL := run_loadA aggRV (vs := noneRV) rfl s3.rowAll
      exact bodyPost_ret (v := .tuple #[.agg noneRV.toArray, .int .i64 1]) (by simp [results, Tryz.results70, asAddr, hL]) rfl (HK.out _ s3.drop)
    · by_cases h2 : 11 < am
      · clear h hnb
        go_enter Tryz.func70, Tryz.ntmps70
        go_wp2_with (first
          | (refine wpl_allocA rfl rfl zeroRV st ?_; rintro E w2 s2)
          | (go_at_call 115; refine rnode_c ?_; rw [HN.out])
          | (refine wpl_storeA (vs := noneRV) rfl (.tmp 6) (.tmp 27) (by rfl) aggRV (by rfl) (by rfl) rfl noneRV_one s2 rfl ?_; rintro w3 s3))
        have hL := run_loadA aggRV (vs := noneRV) rfl s3.rowAll
        exact bodyPost_ret (v := .tuple #[.agg noneRV.toArray, .int .i64 1]) (by simp [results, Tryz.results70, asAddr, hL]) rfl (HK.out _ s3.drop)
      · by_cases h3 : pm < 1
        · clear h hnb
          go_enter Tryz.func70, Tryz.ntmps70
          go_wp2_with (first
            | (refine wpl_allocA rfl rfl zeroRV st ?_; rintro E w2 s2)
            | (go_at_call 115; refine rnode_c ?_; rw [HN.out])
            | (refine wpl_storeA (vs := noneRV) rfl (.tmp 6) (.tmp 27) (by rfl) aggRV (by rfl) (by rfl) rfl noneRV_one s2 rfl ?_; rintro w3 s3))
          have hL := run_loadA aggRV (vs := noneRV) rfl s3.rowAll
          exact bodyPost_ret (v := .tuple #[.agg noneRV.toArray, .int .i64 1]) (by simp [results, Tryz.results70, asAddr, hL]) rfl (HK.out _ s3.drop)
        · have h4 : 11 < pm := by
            by_cases g : 11 < pm
            · exact g
            · exact absurd ⟨hnb, by omega, by omega⟩ h
          clear h hnb
          go_enter Tryz.func70, Tryz.ntmps70
          go_wp2_with (first
            | (refine wpl_allocA rfl rfl zeroRV st ?_; rintro E w2 s2)
            | (go_at_call 115; refine rnode_c ?_; rw [HN.out])
            | (refine wpl_storeA (vs := noneRV) rfl (.tmp 6) (.tmp 27) (by rfl) aggRV (by rfl) (by rfl) rfl noneRV_one s2 rfl ?_; rintro w3 s3))
          have hL := run_loadA aggRV (vs := noneRV) rfl s3.rowAll
          exact bodyPost_ret (v := .tuple #[.agg noneRV.toArray, .int .i64 1]) (by simp [results, Tryz.results70, asAddr, hL]) rfl (HK.out _ s3.drop)

set_option maxRecDepth 100000 in
set_option maxHeartbeats 800000 in
theorem rnew_c {self am pm : Int} (st : St W w R) (h : nodeB self = true ∧ (1 ≤ am ∧ am < 12) ∧ (1 ≤ pm ∧ pm < 12))
    (K : ∀ w', St W w' R → post (.returned (.tuple #[.agg (refCells ⟨self, [], am, [], pm⟩).toArray, .int .i64 0])) w') : Calls Tryz.prog 70 #[.int .i64 self, .int .i64 am, .int .i64 pm] w post := by
  have HK := hid K; clear K
  obtain ⟨h1, ⟨h2, h3⟩, h4, h5⟩ := h
  have HN := hid h1
  clear h1
  go_enter Tryz.func70, Tryz.ntmps70
  go_wp2_with (first
    | (refine wpl_allocA rfl rfl zeroRV st ?_; rintro E w2 s2)
    | (go_at_call 115; refine rnode_c ?_; rw [HN.out])
    | (refine wpl_storeA (vs := refCells ⟨self, [], am, [], pm⟩) rfl (.tmp 6) (.tmp 31) (by rfl) aggRV (by rfl) (by rfl) (refCells_len _) (refCells_one _) s2 rfl ?_; rintro w3 s3))
  have hL := run_loadA aggRV (refCells_len _) s3.rowAll
  exact bodyPost_ret (v := .tuple #[.agg (refCells ⟨self, [], am, [], pm⟩).toArray, .int .i64 0]) (by simp [results, Tryz.results70, asAddr, hL]) rfl (HK.out _ s3.drop)

end

end Go.Proofs.YtbpdchaeakihkaaGreat

/- The reference's Without and Some. -/
namespace Go.Proofs.YtbpdchaeakihkaaGreat
open Go.RowKit Go.Qd

theorem without_c {W w : World} {R : List HP} {post : Ending → World → Prop} {ao : Option Addr} {n c : Nat} {zs : List Int} {i : Nat} (st : St W w R) (rds : Rds W R 1 ao n c (ivs zs)) (hi : i < n) (hb : n * 8 ≤ 140737488355328)
    (K : ∀ ao' c' w', St W w' (OwnS 1 ao' (n - 1) c' (ivs (zs.eraseIdx i)) :: R) → post (.returned (.slice ao' (n - 1) c')) w') :
    Calls Tryz.prog 164 #[.slice ao n c, .int .i64 i] w post := by
  have HK := hid K; clear K
  have rd := rds w st
  have hle := rd.le
  have hbig := rd.big
  have e1 := run_slice_to Tryz.elem24 ao n c i (by omega)
  obtain ⟨ax, cx, ht, e2⟩ := run_slice_from Tryz.elem24 ao n c (i + 1) (n - 1 - i) (i := (i : Int) + 1) (by omega) (by omega)
  have hm1 : i + (n - 1 - i) ≤ maxLen := by unfold maxLen; omega
  have hm0 : i ≤ maxLen := by unfold maxLen; omega
  have hm0' : 0 + i ≤ maxLen := by omega
  have r1 : RdS w 1 ao i c ((ivs zs).take (i * 1)) := RdS.short rd (by omega)
  have r2 : Rds W R 1 ax (n - 1 - i) cx ((ivs zs).drop ((i + 1) * 1)) := fun w s => RdS.tail (rds w s) (by omega) ht
  have hcs : (ivs zs).take (i * 1) ++ (ivs zs).drop ((i + 1) * 1) = ivs (zs.eraseIdx i) := by
    rw [Nat.mul_one, Nat.mul_one, List.eraseIdx_eq_take_drop_succ]; simp only [ivs, ← List.map_take, ← List.map_drop, ← List.map_append]
  have hn : i + (n - 1 - i) = n - 1 := by omega
  have hb2 : (i + (n - 1 - i)) * 8 ≤ 140737488355328 := by omega
  have hb1 : (0 + i) * 8 ≤ 140737488355328 := by omega
  have HC := hid hcs; have HN := hid hn; clear hcs hn
  have hwr : IntKind.i64.wrap ((i : Int) + 1) = (i : Int) + 1 := IntWalk.i64_in _ (by omega)
  go_enter Tryz.func164, Tryz.ntmps164
  go_wp2
  go_region_held3 (fun _ => True) (trivial)
    (first
      | (have s1 : St W (w.alloc (.cells #[] 3)).drew (OwnS 1 (some ⟨w.heap.size, 0, none⟩) 0 0 [] :: R) := (OwnS.empty (st.alloc #[] 3).drop _).drew
         refine step_append_st rfl (.tmp 5) (.tmp 8) rfl Tryz.elem24 rfl rfl s1 (r1.alloc (.cells #[] 3)).drew hb1 hm0' ?_; rintro a3 c3 w3 s3; rw [Nat.zero_add, List.nil_append] at s3; rw [Nat.zero_add])
      | (refine step_append_st rfl (.tmp 9) (.tmp 13) rfl Tryz.elem24 rfl rfl s3 (r2 _ s3.drop) hb2 hm1 ?_; rintro a4 c4 w4 s4; rw [HC.out, HN.out] at s4; rw [HN.out]))
  go_wp2
  exact HK.out _ _ _ s4

set_option maxHeartbeats 400000 in
theorem refSome_c {W w : World} {R : List HP} {post : Ending → World → Prop} {ao ap : Option Addr} {m0 c0 n0 d0 : Nat} {l zs : List Int} {k : Int} (st : St W w (RdH W 1 ao m0 c0 (ivs l) :: RdH W 1 ap n0 d0 (ivs zs) :: R))
    (hb : n0 * 8 ≤ 140737488355328 - 8)
    (K : ∀ a1 c1 a2 c2 w', St W w' (RdH W 1 a1 (someF k.toNat l zs).1.length c1 (ivs (someF k.toNat l zs).1) :: OwnS 1 a2 (someF k.toNat l zs).2.1.length c2 (ivs (someF k.toNat l zs).2.1) :: R) →
      post (.returned (.tuple #[.slice a1 (someF k.toNat l zs).1.length c1, .slice a2 (someF k.toNat l zs).2.1.length c2])) w') :
    Calls Tryz.prog 129 #[.slice ao m0 c0, .slice ap n0 d0, .int .i64 k] w post := by
  have HK := hid K; clear K
  have hl0 : l.length = m0 := ivs_len (RdH.rd st)
  have hz0 : zs.length = n0 := ivs_len (RdH.rd (St.pick 1 st))
  have HL := hid hl0
  have HZ := hid hz0
  clear hl0 hz0
  have s1 : St W (w.alloc (.cells #[] 3)) (OwnS 1 (some ⟨w.heap.size, 0, none⟩) 0 0 (ivs []) :: RdH W 1 ao m0 c0 (ivs l) :: RdH W 1 ap n0 d0 (ivs zs) :: R) := OwnS.empty (st.alloc #[] 3).drop _
  go_enter Tryz.func129, Tryz.ntmps129
  go_wp2_with fail
  go_loopw [0, 1, 8] (fun lv rest out wr => ∃ (al ar ax : Option Addr) (nl cl n c m d : Nat) (L O Q : List Int), lv = .slice al nl cl ∧ rest = .slice ar n c ∧ out = .slice ax m d ∧ Hid (L.length = nl) ∧ Hid (Q.length = n) ∧ Hid (O.length = m) ∧
      n + m ≤ n0 ∧ SomeAt k.toNat l zs L O Q ∧ St W wr (RdH W 1 al nl cl (ivs L) :: RdH W 1 ar n c (ivs Q) :: OwnS 1 ax m d (ivs O) :: R)) (fun _ rest _ _ => slen rest)
  case atStart => exact ⟨ao, ap, _, m0, c0, n0, d0, 0, 0, l, [], zs, rfl, rfl, rfl, HL, HZ, hid rfl, by omega, SomeAt.start _ _ _, St.perm [1, 1, 0] s1⟩
  case round =>
    obtain ⟨al, ar, ax, nl, cl, n, c, m, d, L, O, Q, rfl, rfl, rfl, hL, hQ, hO, hnm, hat, sr⟩ := hrel
    by_cases h1 : (m : Int) < k
    · rcases Nat.eq_zero_or_pos n with h2 | h2
      · subst h2
        have hq : Q = [] := List.eq_nil_of_length_eq_zero hQ.out
        subst hq
        have he := SomeAt.stop2 hat
        rw [he] at HK
        dsimp only at HK
        rw [hL.out, hO.out] at HK
        have hk := HK.out al cl ax d wr ((St.pick 1 (St.pick 1 sr).drop) |> fun s => St.pick 1 s)
        have HK2 := hid hk
        clear hk HK he
        go_wp2
        exact HK2.out
      · obtain ⟨g, o, rfl⟩ := (RdH.rd (St.pick 1 sr)).addr h2
        have hr := drawV_range (l := L) (n := (n : Int)) (by omega)
        obtain ⟨q, hq⟩ := Int.eq_ofNat_of_zero_le hr.1
        have hqn : q < n := by rw [hq] at hr; omega
        have hql : q < Q.length := by rw [hQ.out]; exact hqn
        have hv : Q[q] = pickV L Q := by
          unfold pickV; rw [hQ.out, hq]; simp [List.getD, hql]
        have hstep := SomeAt.step hat (by have := hO.out; omega) (fun h => by subst h; simp at hql)
        rw [hQ.out, hq, Int.toNat_natCast] at hstep
        have HS := hid hstep
        have hqh := hid hq
        have hvh := hid hv
        clear hr hq hstep hv hat
        have hm1 : m + 1 ≤ maxLen := by unfold maxLen; omega
        have hon : ∀ u ∈ [iv (pickV L Q)], u.oneCell' = true := by simp [Value.oneCell']
        go_wp2_with (first
          | (go_at_call 163; refine refDraw_c sr (by omega) ?_; rintro a2 c2 qq s2; rw [hqh.out]; have hc := (RdH.rd (St.pick 1 s2)).at (ivs_get hql); rw [hvh.out] at hc)
          | (at_builtin; have s3 := St.alloc s2 #[.int .i64 (pickV L Q)] 3; have r3 := St.rowRd (sz := 1) s3 (n := 1) rfl (by decide) hon; have s4 := St.pick 3 s3; refine wpl_append rfl _ _ rfl Tryz.elem24 rfl rfl s4 r3 (by omega) hm1 ?_; rintro a5 c5 w5 s5)
          | (go_at_call 164; refine without_c (St.pick 3 s5) RdH.rds hqn (by omega) ?_; rintro a6 c6 w6 s6))
        refine ⟨⟨a2, a6, a5, _, c2, n - 1, c6, m + 1, c5, _, _, _, rfl, rfl, rfl, hid rfl, ?_, ?_, by omega, HS.out, ?_⟩, by simp [slen]; omega⟩
        · rw [List.length_eraseIdx, if_pos hql, hQ.out]; exact hid rfl
        · rw [List.length_append, hO.out]; exact hid rfl
        · rw [ivs_append]
          have s7 := (St.pick 2 (St.pick 1 s6).drop).drop
          exact (RdH.own s7).perm [2, 0, 0]
    · have he := SomeAt.stop1 hat (by have := hO.out; omega)
      rw [he] at HK
      dsimp only at HK
      rw [hL.out, hO.out] at HK
      have hk := HK.out al cl ax d wr (St.pick 1 (St.pick 1 (St.pick 1 sr).drop))
      have HK2 := hid hk
      clear hk HK he
      go_wp2
      exact HK2.out

end Go.Proofs.YtbpdchaeakihkaaGreat
