/- rota's reference: Next, where a cycle begins. -/
import Derived.Test.YtnibgchgcggfbadRefB
import Derived.Test.YtnibgchgcggfbadRotaC
namespace Go.Proofs.Ytnibgchgcggfbad
open Go.RowKit Go.Qd

section
variable {W w : World} {R : List HP} {post : Ending → World → Prop} {full cyc : Int} {L : List Int}

theorem refNext_none {ao ak : Option Addr} {c ck : Nat} (st : St W w (RdH W 1 ao 0 c (ivs []) :: R))
    (K : ∀ w', St W w' (RdH W 1 ao 0 c (ivs []) :: R) → post (.returned (.tuple #[.agg #[.int .i64 full, .int .i64 cyc, .slice ao 0 c], .int .i64 0, .bool false, .bool false])) w') :
    Calls Try.prog 11 #[.agg #[.int .i64 full, .int .i64 cyc, .slice ao 0 c], .slice ak 0 ck] w post := by
  have HK := hid K; clear K
  go_enter Try.func11, Try.ntmps11
  go_wp2_with (first
    | (refine wpl_boxA (vs := [.int .i64 full, .int .i64 cyc, .slice ao 0 c]) rfl (.tmp 0) rfl rfl st ?_; rintro B w1 s1; obtain ⟨h0, h1, h2⟩ := box3 s1)
    | (refine wpl_allocA rfl rfl zero34 s1 ?_; rintro D w2 s2; obtain ⟨g0, g1, g2⟩ := box3 (St.pick 1 s2))
    | (refine wpl_storeA (vs := [.int .i64 full, .int .i64 cyc, .slice ao 0 c]) rfl (.tmp 4) (.tmp 17) (by rfl) agg34 (by rfl) (by rfl) rfl (by simp [Value.oneCell']) s2 rfl ?_; rintro w3 s3; obtain ⟨q0, q1, q2⟩ := box3 s3))
  exact bodyPost_ret (v := .tuple #[.agg #[.int .i64 full, .int .i64 cyc, .slice ao 0 c], .int .i64 0, .bool false, .bool false]) (by simp [results, Try.results11, go_sem, q0, q1, q2]) rfl (HK.out _ (s3.dropN 2))

set_option maxHeartbeats 4000000 in
theorem refNext_new {ao ak : Option Addr} {c nk ck : Nat} {zs : List Int} {p : Int} (st : St W w (RdH W 1 ao 0 c (ivs []) :: R)) (rk : Rds W R 1 ak nk ck (ivs zs)) (hk : zs ≠ []) (hk2 : nk ≤ 1000) (hL : rotaL zs = p :: L) (hf : 1 ≤ full ∧ full ≤ 64) (hc : 0 ≤ cyc ∧ cyc ≤ 1000000)
    (K : ∀ w' a' m' c', St W w' (RdH W 1 a' m' c' (ivs L) :: R) → post (.returned (.tuple #[.agg #[.int .i64 full, .int .i64 (cyc + 1), .slice a' m' c'], .int .i64 p, .bool ((cyc + 1) % full == 0), .bool true])) w') :
    Calls Try.prog 11 #[.agg #[.int .i64 full, .int .i64 cyc, .slice ao 0 c], .slice ak nk ck] w post := by
  have HK := hid K; clear K
  obtain ⟨hf1, hf2⟩ := hf
  obtain ⟨hc1, hc2⟩ := hc
  have hkl := hid (ivs_len (rk w st.drop))
  have hnk0 : 0 < nk := by rw [← hkl.out]; exact List.length_pos_iff.2 hk
  have hkn : ((nk : Int) == 0) = false := by simp; omega
  have RK := hid rk; have HL := hid hL; have HZ := hid hk
  clear rk hL hk
  go_enter Try.func11, Try.ntmps11
  go_wp2_with (first
    | (refine wpl_boxA (vs := [.int .i64 full, .int .i64 cyc, .slice ao 0 c]) rfl (.tmp 0) rfl rfl st ?_; rintro B w1 s1; obtain ⟨h0, h1, h2⟩ := box3 s1)
    | (refine wpl_allocA rfl rfl zero34 s1 ?_; rintro D w2 s2; obtain ⟨g0, g1, g2⟩ := box3 (St.pick 1 s2); obtain ⟨gf, _⟩ := free3 (St.pick 1 s2)))
  have s3 : St W _ (row B 0 [.int .i64 full, .int .i64 (cyc + 1), .slice ao 0 c] :: RdH W 1 ao 0 c (ivs []) :: row D 0 [.int .i64 0, .int .i64 0, .slice none 0 0] :: R) := ((St.pick 1 s2).rowSet (i := 1) (by simp) (.int .i64 (cyc + 1))).perm [0, 1]
  rw [Nat.zero_add] at s3
  generalize w2.setCell ⟨B, 1, none⟩ (.int .i64 (cyc + 1)) = w3 at s3 ⊢
  clear h0 h1 h2 g0 g1 g2 gf s1 s2
  go_loopw [8] (fun ii wr => ∃ (i k : Nat) (a : Option Addr) (cc : Nat) (M : List Int), i ≤ nk ∧ ii = .int .i64 i ∧ k ≤ i ∧ Hid (M.Pairwise (· < ·) ∧ (∀ x, x ∈ M ↔ x ∈ zs.take i) ∧ M.length = k) ∧ St W wr (row B 0 [.int .i64 full, .int .i64 (cyc + 1), .slice a k cc] :: RdH W 1 a k cc (ivs M) :: row D 0 [.int .i64 0, .int .i64 0, .slice none 0 0] :: R)) (fun ii _ => nk - (intOf ii).toNat)
  case atStart => exact ⟨0, 0, ao, c, [], Nat.zero_le _, rfl, Nat.le_refl _, hid ⟨List.Pairwise.nil, fun x => by simp, rfl⟩, s3⟩
  case round =>
    obtain ⟨i, k, a, cc, M, hi, rfl, hki, hM, sr⟩ := hrel
    by_cases hlt : i < nk
    · have hiz : i < zs.length := by rw [hkl.out]; exact hlt
      obtain ⟨gk, ok, rfl⟩ := (RK.out _ (sr.dropN 3)).addr (by omega)
      have hcz : ∀ (w' : World) (L1 L2 L3 : HP), St W w' (L1 :: L2 :: L3 :: R) → w'.cell? ⟨gk, ok + i, none⟩ = some (iv zs[i]) := fun w' _ _ _ s' => (RK.out _ (s'.dropN 3)).at (ivs_get hiz)
      have HCZ := hid hcz
      have hcx := hcz _ _ _ _ sr
      have hts : zs.take (i + 1) = zs.take i ++ [zs[i]] := List.take_succ_eq_append_getElem hiz
      obtain ⟨x, hx⟩ : ∃ x, zs[i] = x := ⟨_, rfl⟩
      rw [hx] at HCZ hcx hts
      have HTS := hid hts
      clear hx hts hcz
      obtain ⟨j0, j1, j2⟩ := box3 sr
      have hbl := World.block_lt_of_cell? _ _ j2
      have sd : St W wr (RdH W 1 a k cc (ivs M) :: row B 0 [.int .i64 full, .int .i64 (cyc + 1), .slice a k cc] :: row D 0 [.int .i64 0, .int .i64 0, .slice none 0 0] :: R) := St.pick 1 sr
      go_wp2_with fail
      go_region_law (first | (go_simp; go_at_call 18; refine with_c (A := M) (n := x) sd.drew (fun w s => RdH.rd s) hM.out.1 (by omega) ?_; rintro a5 k5 c5 w5 s5; have hff := (free3 (St.pick 2 s5)).2; have hcc := (box3 (St.pick 2 s5)).2.2))
      all_goals
        have s6 := (St.pick 2 s5).rowSet (i := 2) (by simp) (.slice a5 k5 c5)
        rw [Nat.zero_add] at s6
        have s7 : St W _ (row B 0 [.int .i64 full, .int .i64 (cyc + 1), .slice a5 k5 c5] :: OwnS 1 a5 k5 c5 (ivs (withL M x)) :: RdH W 1 a k cc (ivs M) :: row D 0 [.int .i64 0, .int .i64 0, .slice none 0 0] :: R) := s6
        have s8 : St W _ (row B 0 [.int .i64 full, .int .i64 (cyc + 1), .slice a5 k5 c5] :: RdH W 1 a5 k5 c5 (ivs (withL M x)) :: row D 0 [.int .i64 0, .int .i64 0, .slice none 0 0] :: R) := (RdH.own ((St.pick 2 s7).drop.perm [1, 0])).perm [1, 0]
        have hk5 := ivs_len (RdH.rd (St.pick 1 s8))
        have hk6 := withL_len M x
        have hk7 := hM.out.2.2
        go_wp2
        go_roundw
        case rel => exact ⟨i + 1, k5, a5, c5, withL M x, by omega, by go_num, by omega, hid ⟨withL_sorted hM.out.1 x, fun y => by rw [mem_withL, hM.out.2.1, HTS.out]; simp, hk5⟩, s8⟩
        case measure => simp [intOf]; omega
    · have hie : i = nk := by omega
      subst hie
      have htk : zs.take i = zs := List.take_of_length_le (by rw [hkl.out]; exact Nat.le_refl _)
      have hMr : M = p :: L := by
        rw [← HL.out]
        exact sorted_ext hM.out.1 (rotaL_sorted zs) fun y => by rw [hM.out.2.1, htk, mem_rotaL]
      have hMl := hM.out.2.2
      rw [hMr] at hMl
      simp only [List.length_cons] at hMl
      obtain ⟨n, rfl⟩ : ∃ n, k = n + 1 := ⟨L.length, hMl.symm⟩
      rw [hMr] at sr
      have HLn := hid (show L.length = n by omega)
      clear hMr htk hM hMl s3
      obtain ⟨h0, h1, h2⟩ := box3 sr
      obtain ⟨g, o, rfl⟩ := (RdH.rd (St.pick 1 sr)).addr (Nat.succ_pos _)
      have hbig := (RdH.rd (St.pick 1 sr)).big
      obtain ⟨ax, cx, ht, hr⟩ := run_slice_from Try.elem28 (some ⟨g, o, none⟩) (n + 1) cc 1 n (i := 1) rfl (by omega)
      have HT := hid ht
      clear ht
      have hb1 : (0 + n) * 8 ≤ 140737488355328 := by omega
      have hm1 : 0 + n ≤ maxLen := by unfold maxLen; omega
      have hBl : B < wr.heap.size := World.block_lt_of_cell? _ _ h2
      have rd := RdH.rd (St.pick 1 sr)
      have hp := rd.at (i := 0) (u := iv p) rfl
      rw [Nat.add_zero] at hp
      have s3 := OwnS.empty (sz := 1) (sr.alloc #[] 3).drop (some ⟨wr.heap.size, 0, none⟩)
      have r3 := RdS.tail (RdH.rd (St.pick 2 s3)) (k := 1) (n' := n) (by omega) HT.out
      go_wp2_with (first
        | (at_builtin; refine wpl_append rfl (.tmp 40) (.tmp 43) rfl Try.elem28 rfl rfl s3 r3 hb1 hm1 ?_; rintro a4 c4 w4 s4'; have s4 : St W w4 (row B 0 [.int .i64 full, .int .i64 (cyc + 1), .slice (some ⟨g, o, none⟩) (n + 1) cc] :: OwnS 1 a4 n c4 (ivs L) :: row D 0 [.int .i64 0, .int .i64 0, .slice none 0 0] :: R) := (by have h := s4'.perm [1, 0]; simp only [Nat.zero_add, List.nil_append] at h; exact (St.pick 2 h).drop); rw [Nat.zero_add]; obtain ⟨k0, k1, k2⟩ := box3 s4; obtain ⟨_, kf⟩ := free3 s4))
      have s5 := s4.rowSet (i := 2) (by simp) (.slice a4 n c4)
      rw [Nat.zero_add] at s5
      generalize w4.setCell ⟨B, 2, none⟩ (.slice a4 n c4) = w5 at s5 ⊢
      have s6 : St W w5 (row B 0 [.int .i64 full, .int .i64 (cyc + 1), .slice a4 n c4] :: OwnS 1 a4 n c4 (ivs L) :: row D 0 [.int .i64 0, .int .i64 0, .slice none 0 0] :: R) := s5
      obtain ⟨j0, j1, j2⟩ := box3 s6
      obtain ⟨e0, e1, e2⟩ := box3 (St.pick 2 s6)
      have hBD : B ≠ D := fun e => by subst e; exact (St.apart (s6.sel [0, 1]) (i := 0) (j := 0) (by simp) (by simp)) ⟨rfl, rfl⟩
      clear h0 h1 h2 hp sr s3 r3 s4 s4' k0 k1 k2 kf s5 hr rd
      have h1 : full ≠ 0 := by omega
      have h2 : (cyc + 1).tmod full = (cyc + 1) % full := Int.tmod_eq_emod_of_nonneg (by omega)
      have h3 := Int.emod_nonneg (cyc + 1) h1
      have h4 := Int.emod_lt_of_pos (cyc + 1) (by omega : 0 < full)
      have f0 : w5.frozen? ⟨D, 0, none⟩ = false := (St.pick 2 s6).rowFree (i := 0) (by simp)
      obtain ⟨f1, f2⟩ := free3 (St.pick 2 s6)
      have hDB : D ≠ B := fun e => hBD e.symm
      have s7 : St W _ (row D 0 [.int .i64 full, .int .i64 (cyc + 1), .slice a4 n c4] :: row B 0 [.int .i64 full, .int .i64 (cyc + 1), .slice a4 n c4] :: OwnS 1 a4 n c4 (ivs L) :: R) := (((St.pick 2 s6).rowSet (i := 0) (by simp) (.int .i64 full)).rowSet (i := 1) (by simp) (.int .i64 (cyc + 1))).rowSet (i := 2) (by simp) (.slice a4 n c4)
      rw [Nat.zero_add, Nat.zero_add, Nat.zero_add] at s7
      obtain ⟨q0, q1, q2⟩ := box3 s7
      have HW := hid s7
      clear s7
      go_region
      generalize ((w5.setCell ⟨D, 0, none⟩ (.int .i64 full)).setCell ⟨D, 1, none⟩ (.int .i64 (cyc + 1))).setCell ⟨D, 2, none⟩ (.slice a4 n c4) = wz at HW q0 q1 q2 ⊢
      go_wp2
      exact bodyPost_ret (v := .tuple #[.agg #[.int .i64 full, .int .i64 (cyc + 1), .slice a4 n c4], .int .i64 p, .bool ((cyc + 1) % full == 0), .bool true]) (by simp [results, Try.results11, go_sem, q0, q1, q2]) rfl (HK.out _ _ _ _ (RdH.own (HW.out.drew.dropN 2)))

theorem refNext_c {ao : Option Addr} {n c : Nat} {ak : Option Addr} {nk ck : Nat} {zs : List Int} (st : St W w (RdH W 1 ao n c (ivs L) :: R)) (rk : Rds W R 1 ak nk ck (ivs zs)) (hk : zs ≠ []) (hk2 : nk ≤ 1000) (hf : 1 ≤ full ∧ full ≤ 64) (hc : 0 ≤ cyc ∧ cyc ≤ 1000000) (hn : n ≤ 100000)
    (K : ∀ w' a' m' c', St W w' (RdH W 1 a' m' c' (ivs (nL L zs)) :: R) → post (.returned (.tuple #[.agg #[.int .i64 full, .int .i64 (nC cyc L), .slice a' m' c'], .int .i64 (nP L zs), .bool (nC cyc L % full == 0), .bool true])) w') :
    Calls Try.prog 11 #[.agg #[.int .i64 full, .int .i64 cyc, .slice ao n c], .slice ak nk ck] w post := by
  have hl := ivs_len (RdH.rd st)
  cases L with
  | nil =>
    simp only [List.length_nil] at hl
    subst hl
    obtain ⟨p, L', hL⟩ : ∃ p L', rotaL zs = p :: L' := by
      cases h : rotaL zs with
      | nil => exact absurd h (rotaL_ne hk)
      | cons p L' => exact ⟨p, L', rfl⟩
    have e1 : nP [] zs = p := by simp [nP, hL]
    have e2 : nL [] zs = L' := by simp [nL, hL]
    have e3 : nC cyc [] = cyc + 1 := by simp [nC]
    rw [e1, e2, e3] at K
    exact refNext_new st rk hk hk2 hL hf hc K
  | cons p L' =>
    simp only [List.length_cons] at hl
    subst hl
    have e1 : nP (p :: L') zs = p := by simp [nP]
    have e2 : nL (p :: L') zs = L' := by simp [nL]
    have e3 : nC cyc (p :: L') = cyc := by simp [nC]
    rw [e1, e2, e3] at K
    exact refNext_take st hf hc (by omega) fun w' a' c' s => K w' a' _ c' s

end

end Go.Proofs.Ytnibgchgcggfbad
