/- RotaPlays: the law's own walk. -/
import Derived.Test.YtnibgchgcggfbadRefD
import Derived.Test.YtnibgchgcggfbadRotaS
import Derived.Test.YtnibgchgcggfbadIntsL
namespace Go.Proofs.Ytnibgchgcggfbad
open Go.RowKit Go.Qd

theorem refNew_st {W w : World} {R : List HP} {post : Ending → World → Prop} {full : Int} (st : St W w R) (K : ∀ w' v k, (1 ≤ full ∧ full ≤ 64 → v = full ∧ k = 0) → (¬ (1 ≤ full ∧ full ≤ 64) → v = 0 ∧ k = 1) → St W w' R → post (.returned (.tuple #[.agg #[.int .i64 v, .int .i64 0, .slice none 0 0], .int .i64 k])) w') : Calls Try.prog 10 #[.int .i64 full] w post := by
  by_cases h : 1 ≤ full ∧ full ≤ 64
  · exact refNew_c st h fun w' s => K w' _ _ (fun _ => ⟨rfl, rfl⟩) (fun g => absurd h g) s
  · exact refNew_no st (by omega) fun w' s => K w' _ _ (fun g => absurd g h) (fun _ => ⟨rfl, rfl⟩) s

set_option maxRecDepth 100000 in
set_option maxHeartbeats 16000000 in
theorem rotaPlays_c {W : World} {post : Ending → World → Prop} {al : Option Addr} {nl cl : Nat} {l : List SV} {full : Int} (rl : RdS W 1 al nl cl (slCells l)) (hok : ∀ x ∈ l, x.ok W)
    (K : ∀ w', Below W.heap.size W w' → post (.returned (.bool true)) w') : Calls Try.prog 4 #[.int .i64 full, .slice al nl cl] W post := by
  have HK := hid K; clear K
  have hml := rl.big
  have s0 := St.init W
  have hll := hid (slCells_len rl)
  by_cases h1 : fewB l = true
  · have hF := h1
    unfold fewB at h1
    simp only [Bool.and_eq_true, List.all_eq_true, decide_eq_true_eq] at h1
    obtain ⟨h20, h60⟩ := h1
    rw [hll.out] at h60
    have HF := hid hF; have H20 := hid h20; have HOK := hid hok
    clear hF h20 hok
    by_cases hfu : 1 ≤ full ∧ full ≤ 64
    · go_enter Try.func4, Try.ntmps4
      go_wp2_with (first
        | (go_at_call 6; refine speaks_c s0 ?_; rintro w1 s1)
        | (go_at_call 9; refine few_c s1 rl ?_; rw [HF.out])
        | (go_at_call 7; refine rota_new_c s1 hfu ?_; rintro b w2 s2)
        | (go_at_call 10; refine refNew_c s2 hfu ?_; rintro w3 s3)
        | (refine wpl_allocA rfl rfl zero34 s3 ?_; rintro T w4 s4)
        | (refine wpl_storeA (vs := [.int .i64 full, .int .i64 0, .slice none 0 0]) rfl (.tmp 7) (.tmp 34) (by rfl) agg34 (by rfl) (by rfl) rfl (by simp [Value.oneCell']) s4 rfl ?_; rintro w5 s5))
      go_loopw [50] (fun ii wr => ∃ (k : Nat) (cyc : Int) (L : List Int) (a : Option Addr) (n c : Nat), k ≤ nl ∧ ii = .int .i64 k ∧ 0 ≤ cyc ∧ cyc ≤ k ∧ L.length ≤ 20 ∧ St W wr (row T 0 [.int .i64 full, .int .i64 cyc, .slice a n c] :: RdH W 1 a n c (ivs L) :: RotaA b full cyc L :: [])) (fun ii _ => nl - (intOf ii).toNat)
      case atStart => exact ⟨0, 0, [], none, 0, 0, Nat.zero_le _, rfl, by omega, by omega, by simp, St.pick 1 (RdH.own (OwnS.none0 s5))⟩
      case round =>
        obtain ⟨k, cyc, L, a, n, c, hk, rfl, hc1, hc2, hL, sr⟩ := hrel
        by_cases hlt : k < nl
        · obtain ⟨g, o, rfl⟩ := rl.addr (by omega)
          have hkl : k < l.length := by rw [hll.out]; exact hlt
          have hc0 := (rl.st sr).at (slCells_get hkl)
          have hxok := HOK.out _ (List.getElem_mem hkl)
          have hx20 := H20.out _ (List.getElem_mem hkl)
          obtain ⟨x, hx⟩ : ∃ x, l[k] = x := ⟨_, rfl⟩
          rw [hx] at hc0 hxok hx20
          clear hx
          obtain ⟨xa, xn, xc, xL⟩ := x
          dsimp only [SV.val] at hc0
          dsimp only at hx20
          have rx : RdS W 1 xa xn xc (ivs xL) := hxok
          clear hxok
          have hxl := ivs_len rx
          have HCC := hid (nC2_le cyc L xL)
          have HLL := hid (nL_le (m := 20) (L := L) (zs := xL) hL (by omega))
          obtain ⟨q, hq⟩ : ∃ q, nP L xL = q := ⟨_, rfl⟩
          obtain ⟨fb, hfb⟩ : ∃ fb, fB full cyc L xL = fb := ⟨_, rfl⟩
          obtain ⟨kb, hkb⟩ : ∃ kb, okB L xL = kb := ⟨_, rfl⟩
          obtain ⟨M, hM⟩ : ∃ M, nL L xL = M := ⟨_, rfl⟩
          obtain ⟨cy, hcy⟩ : ∃ cy, nC2 cyc L xL = cy := ⟨_, rfl⟩
          rw [hM] at HLL
          rw [hcy] at HCC
          have HE := hid (show nP L xL = q ∧ fB full cyc L xL = fb ∧ okB L xL = kb ∧ nL L xL = M ∧ nC2 cyc L xL = cy from ⟨hq, hfb, hkb, hM, hcy⟩)
          clear hq hfb hkb hM hcy hxl
          go_wp2_with (first
            | (refine wpl_loadA (vs := [.int .i64 full, .int .i64 cyc, .slice a n c]) rfl (.tmp 7) (by rfl) agg34 (by rfl) rfl sr.rowAll ?_)
            | (go_at_call 11; refine refNext_any (zs := xL) (St.pick 1 sr) (rx.rds _) (by omega) hfu (by omega) (by omega) ?_; rintro w6 a6 n6 c6 s6; rw [HE.out.1, HE.out.2.1, HE.out.2.2.1, HE.out.2.2.2.2]; rw [HE.out.2.2.2.1] at s6)
            | (refine wpl_allocA rfl rfl zero34 s6 ?_; rintro D w7 s7)
            | (refine wpl_storeA (vs := [.int .i64 full, .int .i64 cy, .slice a6 n6 c6]) rfl (.tmp 11) (.tmp 58) (by rfl) agg34 (by rfl) (by rfl) rfl (by simp [Value.oneCell']) s7 rfl ?_; rintro w8 s8)
            | (refine wpl_loadA (vs := [.int .i64 full, .int .i64 cy, .slice a6 n6 c6]) rfl (.tmp 11) (by rfl) agg34 (by rfl) rfl s8.rowAll ?_)
            | (refine wpl_storeA (vs := [.int .i64 full, .int .i64 cy, .slice a6 n6 c6]) rfl (.tmp 7) (.tmp 62) (by rfl) agg34 (by rfl) (by rfl) rfl (by simp [Value.oneCell']) (St.pick 2 s8) rfl ?_; rintro w9 s9)
            | (go_at_call 8; refine next_any (zs := xL) (St.pick 3 s9) (rx.rds _) (by omega) hfu (by omega) ?_; rintro w10 s10; rw [HE.out.1, HE.out.2.1, HE.out.2.2.1]; rw [HE.out.2.2.2.1, HE.out.2.2.2.2] at s10))
          have hM20 : M.length ≤ 20 := HLL.out
          have s11 := s10.drew
          have hk11 := (box3 (St.pick 1 s11)).2
          go_region_held3 (fun w' => w'.cell? ⟨T, 1, none⟩ = some (iv cy) ∧ w'.cell? ⟨T, 2, none⟩ = some (.slice a6 n6 c6))
            (first
              | exact hk11
              | exact (box3 (St.pick 1 (s12.drewN kq).drop)).2
              | exact (box3 (St.pick 1 s12.drop)).2)
            (first
              | (go_at_call 12; refine cycle_c s11 ?_)
              | (go_at_call 14; refine rleft_c s11 (by omega) ?_; rintro a12 c12 w12 s12)
              | (go_at_call 13; refine same_c (xs := M) (ys := M) (OwnS.rd s12) (RdH.rd (St.pick 4 s12)) ?_; rintro kq; rw [decide_eq_true rfl]))
          go_wp2
          go_roundw
          case rel => exact ⟨k + 1, cy, M, a6, n6, c6, by omega, by go_num, by have := HCC.out; omega, by have := HCC.out; omega, hM20, (s12.drewN kq).sel [2, 3, 1]⟩
          case measure => simp [intOf]; omega
        · have hke : k = nl := by omega
          subst hke
          go_wp2
          exact HK.out _ sr.below
    · have hno : full < 1 ∨ 64 < full := by omega
      go_enter Try.func4, Try.ntmps4
      go_wp2_with (first
        | (go_at_call 6; refine speaks_c s0 ?_; rintro w1 s1)
        | (go_at_call 9; refine few_c s1 rl ?_; rw [HF.out])
        | (go_at_call 7; refine rota_new_no hno ?_)
        | (go_at_call 10; refine refNew_no s1 hno ?_; rintro w3 s3)
        | (refine wpl_allocA rfl rfl zero34 s3 ?_; rintro T w4 s4)
        | (refine wpl_storeA (vs := [.int .i64 0, .int .i64 0, .slice none 0 0]) rfl (.tmp 7) (.tmp 34) (by rfl) agg34 (by rfl) (by rfl) rfl (by simp [Value.oneCell']) s4 rfl ?_; rintro w5 s5))
      exact HK.out _ s5.below
  · have hF : fewB l = false := by simpa using h1
    have HF := hid hF
    clear hF h1
    go_enter Try.func4, Try.ntmps4
    go_wp2_with (first
      | (go_at_call 9; refine few_c s1 rl ?_; rw [HF.out])
      | (go_at_call 6; first | (refine speaks_c s1 ?_; rintro w2 s2) | (refine speaks_c s0 ?_; rintro w1 s1)))
    exact HK.out _ s2.below

end Go.Proofs.Ytnibgchgcggfbad
