/- RotaComes: the law's own walk. -/
import Derived.Test.YtnibgchgcggfbadRotaS
import Derived.Test.YtnibgchgcggfbadComesL
import Derived.Test.YtnibgchgcggfbadIntsL
namespace Go.Proofs.Ytnibgchgcggfbad
open Go.RowKit Go.Qd

theorem nL_len {L zs : List Int} {m : Nat} (h1 : L.length ≤ m) (h2 : zs.length ≤ m) : (nL L zs).length ≤ m := by
  unfold nL
  rw [List.length_tail]
  have : (rotaL zs).length ≤ zs.length := by
    unfold rotaL
    exact Nat.le_trans (compact_le _) (by rw [List.length_mergeSort]; exact Nat.le_refl _)
  split <;> omega
theorem nC_le (cyc : Int) (L : List Int) : cyc ≤ nC cyc L ∧ nC cyc L ≤ cyc + 1 := by unfold nC; split <;> omega

set_option maxRecDepth 100000 in
set_option maxHeartbeats 4000000 in
theorem rotaComes_c {W : World} {post : Ending → World → Prop} {al : Option Addr} {nl cl : Nat} {l : List SV} {full who : Nat} (hfu : full ≤ 255) (hwho : who ≤ 255) (rl : RdS W 1 al nl cl (slCells l)) (hok : ∀ x ∈ l, x.ok W)
    (K : ∀ w', Below W.heap.size W w' → post (.returned (.bool true)) w') : Calls Try.prog 3 #[.int .u8 full, .slice al nl cl, .int .u8 who] W post := by
  have HK := hid K; clear K
  have hml := rl.big
  have s0 := St.init W
  have hll := hid (slCells_len rl)
  have HOK := hid hok; clear hok
  by_cases h60 : nl ≤ 60
  · have hp1 : (0 : Int) ≤ (who : Int) % 12 := by omega
    have hp2 : (who : Int) % 12 < 12 := by omega
    have hf1 : (0 : Int) ≤ (full : Int) % 8 := by omega
    have hf2 : (full : Int) % 8 < 8 := by omega
    go_enter Try.func3, Try.ntmps3
    go_wp2_with (first
      | (go_at_call 6; refine speaks_c s0 ?_; rintro w1 s1)
      | (go_at_call 7; refine rota_new_c s1 (by omega) ?_; rintro b w2 s2))
    go_loopw [47] (fun ii wr => ∃ (k : Nat) (cyc : Int) (L : List Int), k ≤ nl ∧ ii = .int .i64 k ∧ 0 ≤ cyc ∧ cyc ≤ k ∧ L.length ≤ 12 ∧ St W wr (RotaA b (1 + (full : Int) % 8) cyc L :: [])) (fun ii _ => nl - (intOf ii).toNat)
    case atStart => exact ⟨0, 0, [], Nat.zero_le _, rfl, by omega, by omega, by simp, s2⟩
    case round =>
      obtain ⟨k, cyc, L, hk, rfl, hc1, hc2, hL, sr⟩ := hrel
      by_cases hlt : k < nl
      · obtain ⟨g, o, rfl⟩ := rl.addr (by omega)
        have hkl : k < l.length := by rw [hll.out]; exact hlt
        have hc0 := (rl.st sr).at (slCells_get hkl)
        have hxok := HOK.out _ (List.getElem_mem hkl)
        obtain ⟨x, hx⟩ : ∃ x, l[k] = x := ⟨_, rfl⟩
        rw [hx] at hc0 hxok
        clear hx
        obtain ⟨xa, xn, xc, xL⟩ := x
        dsimp only [SV.val] at hc0
        have rx : RdS W 1 xa xn xc (ivs xL) := hxok
        clear hxok
        have hxl := hid (ivs_len rx)
        by_cases h11 : xn ≤ 11
        · have s3 := OwnS.empty (sz := 1) (sr.alloc #[] 3).drop (some ⟨wr.heap.size, 0, none⟩)
          have hb1 : (0 + xn) * 8 ≤ 140737488355328 := by omega
          have hm1 : 0 + xn ≤ maxLen := by unfold maxLen; omega
          have hb2 : (xn + 1) * 8 ≤ 140737488355328 := by omega
          have hm2 : xn + 1 ≤ maxLen := by unfold maxLen; omega
          go_wp2_with (first
            | (at_builtin; refine wpl_append rfl (.tmp 55) (.tmp 56) rfl Try.elem28 rfl rfl s3 (rx.st s3) hb1 hm1 ?_; rintro a4 c4 w4 s4; rw [Nat.zero_add, List.nil_append] at s4; rw [Nat.zero_add]; have s5 := s4.alloc #[.int .i64 ((who : Int) % 12)] 3)
            | (at_builtin; refine wpl_append rfl (.tmp 57) (.tmp 59) rfl Try.elem28 rfl rfl (St.pick 1 s5) (St.rowRd (n := 1) s5 rfl (by decide) (ivs_one [((who : Int) % 12)])) hb2 hm2 ?_; rintro a6 c6 w6 s6; have s7 : St W w6 (RotaA b _ cyc L :: OwnS 1 a6 (xn + 1) c6 (ivs (xL ++ [((who : Int) % 12)])) :: row w4.heap.size 0 [.int .i64 ((who : Int) % 12)] :: []) := (by have := s6.perm [2, 0]; rw [ivs_append]; exact this))
            | (go_at_call 8; refine next_c (zs := xL ++ [((who : Int) % 12)]) s7 (fun w s => OwnS.rd s) (by simp) (by omega) (by omega) (by omega) ?_; rintro w8 s8))
          go_roundw
          case rel => exact ⟨k + 1, _, _, by omega, by go_num, by have := nC_le cyc L; omega, by have := nC_le cyc L; omega, nL_len hL (by have := hxl.out; simp; omega), s8.sel [0]⟩
          case measure => simp [intOf]; omega
        · go_wp2
          exact HK.out _ sr.below
      · clear hll HOK
        obtain ⟨m, hm⟩ : ∃ m, L.length = m := ⟨_, rfl⟩
        have HL := hid hm
        have hm12 : m ≤ 12 := by omega
        have hcy : cyc ≤ 60 := by omega
        clear hm hL
        go_wp2_with fail
        go_loopw [13, 14, 66] (fun tv wv ii wr => ∃ (i : Nat) (cy : Int) (M : List Int) (told whole : Bool), i ≤ 12 * (1 + full % 8 + 2) ∧ ii = .int .i64 i ∧ tv = .bool told ∧ wv = .bool whole ∧ Hid (CAt (1 + full % 8) m cyc ((who : Int) % 12) i cy M told whole) ∧ St W wr (RotaA b (1 + (full : Int) % 8) cy M :: [])) (fun _ _ ii _ => 12 * (1 + full % 8 + 2) - (intOf ii).toNat)
        case atStart => exact ⟨0, cyc, L, false, false, Nat.zero_le _, rfl, rfl, rfl, hid (CAt.start hp1 hc1 HL.out), sr⟩
        case round =>
          obtain ⟨i, cy, M, told, whole, hi, rfl, rfl, rfl, hC, sx⟩ := hrel
          by_cases hlt2 : i < 12 * (1 + full % 8 + 2)
          · have hstep := hC.out.step ⟨hp1, hp2⟩ (by omega)
            have hlow := hC.out.low
            have hfi : ((i : Int) < 12 * (1 + (full : Int) % 8 + 2)) := by omega
            have hsoon := fun h : i + 1 = 24 => (h ▸ hstep).soon ⟨hp1, hp2⟩ hm12
            have hcast : ((1 + full % 8 : Nat) : Int) = 1 + (full : Int) % 8 := by omega
            rw [hcast] at hstep
            clear hcast hC
            obtain ⟨q, hq⟩ : ∃ q, nP M (((who : Int) % 12) :: all12) = q := ⟨_, rfl⟩
            obtain ⟨fb, hfb⟩ : ∃ fb, (nC cy M % (1 + (full : Int) % 8) == 0) = fb := ⟨_, rfl⟩
            rw [hq, hfb] at hstep
            rw [hq] at hsoon
            have HQ := hid hq
            have HFB := hid hfb
            clear hq hfb
            have s3 : St W _ (OwnS 1 (some ⟨wr.heap.size, 0, none⟩) 1 1 [iv ((who : Int) % 12)] :: _) := St.rowOwn (n := 1) (sx.alloc #[.int .i64 ((who : Int) % 12)] 3) rfl (by decide) (ivs_one [((who : Int) % 12)])
            have s4 := s3.alloc #[.int .i64 0, .int .i64 1, .int .i64 2, .int .i64 3, .int .i64 4, .int .i64 5, .int .i64 6, .int .i64 7, .int .i64 8, .int .i64 9, .int .i64 10, .int .i64 11] 3
            rw [World.size_alloc] at s4
            have r4 := St.rowRd (sz := 1) (n := 12) s4 rfl (by decide) (ivs_one all12)
            have hlo1 := hlow.1
            have hlo2 : cy ≤ 1000000 := by omega
            clear hlow
            by_cases hqp : q = ((who : Int) % 12)
            · subst hqp
              have hT : (told || ((who : Int) % 12) == ((who : Int) % 12)) = true := by simp
              have hW : (whole || (((who : Int) % 12) == ((who : Int) % 12) && fb)) = (whole || fb) := by simp
              rw [hT, hW] at hstep
              have HS := hid hstep
              clear hstep hsoon hT hW
              cases whole <;> cases fb <;> cases told
              all_goals
                go_wp2_with (first
                  | (at_builtin; refine wpl_append rfl (.tmp 72) (.tmp 73) rfl Try.elem28 rfl rfl (St.pick 1 s4) r4 (by omega) (by decide) ?_; rintro a6 c6 w6 s6; have s7 : St W w6 (RotaA b _ cy M :: OwnS 1 a6 (1 + 12) c6 (ivs (((who : Int) % 12) :: all12)) :: _) := s6.perm [2, 0])
                  | (go_at_call 8; refine next_c (zs := ((who : Int) % 12) :: all12) s7 (fun w s => OwnS.rd s) (by simp) (by omega) (by omega) ⟨hlo1, hlo2⟩ ?_; rintro w8 s8; rw [HQ.out, HFB.out]))
                all_goals
                  go_roundw
                  case rel => exact ⟨i + 1, _, _, _, _, by omega, by go_num, rfl, rfl, HS, s8.sel [0]⟩
                  case measure => simp [intOf]; omega
            · have hne : (q == ((who : Int) % 12)) = false := by simpa using hqp
              rw [hne] at hstep hsoon
              simp only [Bool.or_false, Bool.false_and] at hstep hsoon
              have HS := hid hstep
              cases told with
              | true =>
                clear hstep hsoon hqp
                cases whole
                all_goals
                  go_wp2_with (first
                    | (at_builtin; refine wpl_append rfl (.tmp 72) (.tmp 73) rfl Try.elem28 rfl rfl (St.pick 1 s4) r4 (by omega) (by decide) ?_; rintro a6 c6 w6 s6; have s7 : St W w6 (RotaA b _ cy M :: OwnS 1 a6 (1 + 12) c6 (ivs (((who : Int) % 12) :: all12)) :: _) := s6.perm [2, 0])
                    | (go_at_call 8; refine next_c (zs := ((who : Int) % 12) :: all12) s7 (fun w s => OwnS.rd s) (by simp) (by omega) (by omega) ⟨hlo1, hlo2⟩ ?_; rintro w8 s8; rw [HQ.out, HFB.out]))
                  all_goals
                    go_roundw
                    case rel => exact ⟨i + 1, _, _, _, _, by omega, by go_num, rfl, rfl, HS, s8.sel [0]⟩
                    case measure => simp [intOf]; omega
              | false =>
                have h23 : ((i : Int) == 23) = false := by
                  have : i + 1 ≠ 24 := fun e => by have := hsoon e; cases this
                  simp; omega
                clear hstep hsoon hqp
                cases whole
                all_goals
                  go_wp2_with (first
                    | (at_builtin; refine wpl_append rfl (.tmp 72) (.tmp 73) rfl Try.elem28 rfl rfl (St.pick 1 s4) r4 (by omega) (by decide) ?_; rintro a6 c6 w6 s6; have s7 : St W w6 (RotaA b _ cy M :: OwnS 1 a6 (1 + 12) c6 (ivs (((who : Int) % 12) :: all12)) :: _) := s6.perm [2, 0])
                    | (go_at_call 8; refine next_c (zs := ((who : Int) % 12) :: all12) s7 (fun w s => OwnS.rd s) (by simp) (by omega) (by omega) ⟨hlo1, hlo2⟩ ?_; rintro w8 s8; rw [HQ.out, HFB.out]))
                  all_goals
                    go_roundw
                    case rel => exact ⟨i + 1, _, _, _, _, by omega, by go_num, rfl, rfl, HS, s8.sel [0]⟩
                    case measure => simp [intOf]; omega
          · have hie : i = 12 * (1 + full % 8 + 2) := by omega
            have hw := hC.out.end ⟨hp1, hp2⟩ (by omega) hm12 hie
            subst hw
            have hfi : ¬ ((i : Int) < 12 * (1 + (full : Int) % 8 + 2)) := by omega
            clear hie
            go_wp2
            exact HK.out _ sx.below
  · go_enter Try.func3, Try.ntmps3
    go_wp2_with (first
      | (go_at_call 6; refine speaks_c s0 ?_; rintro w1 s1)
      | (go_at_call 6; refine speaks_c s1 ?_; rintro w2 s2))
    exact HK.out _ s2.below

end Go.Proofs.Ytnibgchgcggfbad
