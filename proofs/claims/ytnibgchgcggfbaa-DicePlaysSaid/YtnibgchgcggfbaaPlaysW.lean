/- DicePlays: the law's own walk. -/
import Derived.Test.YtnibgchgcggfbaaDiceS
import Derived.Test.YtnibgchgcggfbaaRefDice
import Derived.Test.YtnibgchgcggfbaaActs
namespace Go.Proofs.Ytnibgchgcggfbaa
open Go.RowKit Go.Qd

theorem box3 {W w : World} {R : List HP} {B : Nat} {x y z : Value} (s : St W w (row B 0 [x, y, z] :: R)) :
    w.cell? ⟨B, 0, none⟩ = some x ∧ w.cell? ⟨B, 1, none⟩ = some y ∧ w.cell? ⟨B, 2, none⟩ = some z :=
  ⟨s.rowCell (i := 0) rfl, by have := s.rowCell (i := 1) rfl; rwa [Nat.zero_add] at this, by have := s.rowCell (i := 2) rfl; rwa [Nat.zero_add] at this⟩

theorem box3L {W w : World} {R : List HP} {B : Nat} {x y z : Value} (s : St W w (row B 0 [x, y, z] :: R)) : w.cell? ⟨B, 2, none⟩ = some z := (box3 s).2.2

/-- Where the loop stands. -/
def PlaysAt (W : World) (b n k : Nat) (wr : World) (mv : Value) : Prop :=
  k ≤ n ∧ ∃ (am : Option Addr) (cm : Nat) (L : List Int), mv = .slice am L.length cm ∧ L.length ≤ 40 + 30 * k ∧ St W wr (DiceA b L :: RdH W 1 am L.length cm (ivs L) :: [])

theorem drawL_le (l : List Int) (n : Int) : (drawL l n).length ≤ l.length := by
  cases l with
  | nil => simp [drawL]
  | cons x r => simp only [drawL]; split <;> simp

theorem someF_le : ∀ (k : Nat) (l zs : List Int), (someF k l zs).1.length ≤ l.length
  | 0, l, zs => by simp [someF]
  | k + 1, l, zs => by
    by_cases h : zs = []
    · subst h; simp [someF]
    · rw [someF_step _ _ _ h]
      exact Nat.le_trans (someF_le k _ _) (drawL_le _ _)

set_option maxRecDepth 100000 in
set_option maxHeartbeats 1600000 in
theorem dicePlays_c {W : World} {post : Ending → World → Prop} {aa al : Option Addr} {na nl ca cl : Nat} {za : List Int} {l : List ActV}
    (ra : RdS W 1 aa na ca (ivs za)) (rl : RdS W 3 al nl cl (actCells l)) (hok : ∀ x ∈ l, x.ok W)
    (K : ∀ w', Below W.heap.size W w' → post (.returned (.bool true)) w') : Calls Try.prog 5 #[.slice aa na ca, .slice al nl cl] W post := by
  have HK := hid K; clear K
  have hma := ra.big
  have hml := rl.big
  have s0 := St.init W
  have hza := ivs_len ra
  have hll := hid (actCells_len rl)
  by_cases h1 : na ≤ 40 ∧ fewB l = true
  · obtain ⟨h1, h2⟩ := h1
    have h30 : ∀ x ∈ l, x.m ≤ 30 := by
      unfold fewB at h2
      simp only [Bool.and_eq_true, List.all_eq_true, decide_eq_true_eq] at h2
      exact h2.1
    have hn40 : nl ≤ 40 := by
      unfold fewB at h2
      simp only [Bool.and_eq_true, decide_eq_true_eq] at h2
      rw [hll.out] at h2; exact h2.2
    have H30 := hid h30; have HOK := hid hok; have HF := hid h2; have HZA := hid hza; clear h30 hok h2 hza
    go_enter Try.func5, Try.ntmps5
    go_wp2_with (first
      | (go_at_call 6; refine speaks_c s0 ?_; rintro w1 s1)
      | (go_at_call 14; refine few_c s1 rl ?_; rintro w2 s2; rw [HF.out])
      | (go_at_call 7; refine new_c s2 (ra.st s2) (by omega) ?_; rintro b w3 s3))
    go_loopw [6, 36] (fun mv ii wr => ∃ k : Nat, ii = .int .i64 k ∧ PlaysAt W b nl k wr mv) (fun _ ii _ => nl - (intOf ii).toNat)
    case atStart =>
      refine ⟨0, rfl, Nat.zero_le _, aa, ca, za, by rw [HZA.out], by rw [HZA.out]; omega, ?_⟩
      rw [HZA.out]
      exact St.pick 1 (RdH.old ra s3)
    case round =>
      obtain ⟨k, rfl, hk, am, cm, L, rfl, hL, sr⟩ := hrel
      by_cases hlt : k < nl
      · obtain ⟨g, o, rfl⟩ := rl.addr (by omega)
        have hkl : k < l.length := by rw [hll.out]; exact hlt
        have hc0 := (rl.st sr).at (i := k * 3) (u := .int .i64 l[k].kind) (by have := actCells_get hkl (j := 0) (by decide); rw [Nat.add_zero] at this; rw [this]; rfl)
        have hc1 := (rl.st sr).at2 (i := k * 3) (j := 1) (u := .int .i64 l[k].n) (by rw [actCells_get hkl (j := 1) (by decide)]; rfl)
        have hc2 := (rl.st sr).at2 (i := k * 3) (j := 2) (u := .slice l[k].a l[k].m l[k].c) (by rw [actCells_get hkl (j := 2) (by decide)]; rfl)
        have hx30 := H30.out _ (List.getElem_mem hkl)
        have hxok := HOK.out _ (List.getElem_mem hkl)
        obtain ⟨x, hx⟩ : ∃ x, l[k] = x := ⟨_, rfl⟩
        rw [hx] at hc0 hc1 hc2 hx30 hxok
        clear hx
        obtain ⟨kind, an, xa, xm, xc, xL⟩ := x
        dsimp only at hc0 hc1 hc2 hx30
        have rx : RdS W 1 xa xm xc (ivs xL) := hxok
        have hxl := hid (ivs_len rx)
        clear hxok
        have s4 : St W (wr.alloc (.cells #[.int .i64 kind, .int .i64 an, .slice xa xm xc] 37)) (row wr.heap.size 0 [.int .i64 kind, .int .i64 an, .slice xa xm xc] :: DiceA b L :: RdH W 1 am L.length cm (ivs L) :: []) := sr.alloc _ _
        by_cases hk0 : kind = 0
        · subst hk0
          have hb1 : (0 + L.length) * 8 ≤ 140737488355328 := by omega
          have hb2 : (L.length + xm) * 8 ≤ 140737488355328 := by omega
          have hm1 : 0 + L.length ≤ maxLen := by unfold maxLen; omega
          have hm2 : L.length + xm ≤ maxLen := by unfold maxLen; omega
          obtain ⟨wq, hwq⟩ : ∃ wq, wr.alloc (.cells #[.int .i64 0, .int .i64 an, .slice xa xm xc] 37) = wq := ⟨_, rfl⟩
          have HW := hid hwq
          clear hwq
          go_wp2_with fail
          rw [HW.out] at s4 ⊢
          clear HW
          have hbx := box3L s4
          have s5 : St W (wq.alloc (.cells #[] 3)).drew (OwnS 1 (some ⟨wq.heap.size, 0, none⟩) 0 0 [] :: row wr.heap.size 0 [.int .i64 0, .int .i64 an, .slice xa xm xc] :: DiceA b L :: RdH W 1 am L.length cm (ivs L) :: []) := (OwnS.empty (s4.alloc #[] 3).drop _).drew
          have hb5 := box3L (St.pick 1 s5)
          have hm5 := RdH.rd (St.pick 3 s5)
          have HXL := hid rx
          go_region_held3 (fun w' => w'.cell? ⟨wr.heap.size, 2, none⟩ = some (.slice xa xm xc))
            (first
              | exact hbx
              | exact hb5
              | exact box3L (St.pick 1 s6)
              | exact box3L (St.pick 1 s7))
            (first
              | (refine step_append_st rfl (.tmp 62) (.tmp 63) rfl Try.elem22 rfl rfl s5 hm5 hb1 hm1 ?_; rintro a6 c6 w6 s6; rw [Nat.zero_add, List.nil_append] at s6; rw [Nat.zero_add])
              | (refine step_append_st rfl (.tmp 64) (.tmp 66) rfl Try.elem22 rfl rfl s6 (rx.st s6) hb2 hm2 ?_; rintro a7 c7 w7 s7))
          have hb7 := box3L (St.pick 1 s7)
          obtain ⟨M, hM⟩ : ∃ M, L ++ xL = M := ⟨_, rfl⟩
          have hml2 : M.length = L.length + xm := by rw [← hM, List.length_append, hxl.out]
          have hne : ((M.length : Int) != (L.length : Int) + (xm : Int)) = false := by
            rw [bne_eq_false_iff_eq, hml2]; simp
          have HM := hid hM
          have HML := hid hml2
          clear hM hml2
          go_wp2_with (first
            | (go_at_call 8; refine feed_c (St.pick 2 s7) (rx.st s7) (by omega) ?_; rintro w8 s8; rw [HM.out] at s8)
            | (go_at_call 10; refine left_c s8 ?_))
          go_roundw
          case rel =>
            refine ⟨k + 1, by go_num, by omega, a7, c7, M, by rw [HML.out], by rw [HML.out]; omega, ?_⟩
            rw [HML.out, ← HM.out, ivs_append]
            rw [← HM.out] at s8
            exact St.pick 1 (RdH.own (s8.sel [1, 0]))
          case measure => simp [intOf]; omega
        · by_cases hk1 : kind = 1
          · subst hk1
            obtain ⟨p, hp⟩ : ∃ p, (if xL = [] then 0 else pickV L xL) = p := ⟨_, rfl⟩
            obtain ⟨L2, hL2⟩ : ∃ L2, (if xL = [] then L else drawL L xL.length) = L2 := ⟨_, rfl⟩
            have hle : L2.length ≤ 40 + 30 * (k + 1) := by
              rw [← hL2]; have := drawL_le L xL.length; split <;> omega
            have HP := hid hp; have HL2 := hid hL2; clear hp hL2
            have hpp : (p != p) = false := by simp
            have hll2 : ((L2.length : Int) != (L2.length : Int)) = false := by simp
            go_wp2_with (first
              | (go_at_call 15; refine refPick_c (St.pick 2 s4) (rx.rds _) (by omega) ?_; rintro a5 c5 q s5; rw [HP.out, HL2.out]; rw [HL2.out] at s5; have hb5 := box3L (St.pick 1 s5))
              | (go_at_call 13; refine pick_c (St.pick 2 s5) (rx.rds _) ?_; rintro w6 s6; rw [HP.out]; rw [HL2.out] at s6)
              | (go_at_call 10; refine left_c s6 ?_))
            go_roundw
            case rel => exact ⟨k + 1, by go_num, by omega, a5, c5, L2, rfl, hle, (St.pick 2 s6).drop⟩
            case measure => simp [intOf]; omega
          · by_cases hk2 : kind = 2
            · subst hk2
              obtain ⟨⟨L3, O3, Q3⟩, hF⟩ : ∃ F, someF an.toNat L xL = F := ⟨_, rfl⟩
              have hle : L3.length ≤ 40 + 30 * (k + 1) := by
                have := someF_le an.toNat L xL; rw [hF] at this; dsimp only at this; omega
              have hll2 : ((L3.length : Int) != (L3.length : Int)) = false := by simp
              have HF3 := hid hF; clear hF
              have hst : St W (wr.alloc (.cells #[.int .i64 2, .int .i64 an, .slice xa xm xc] 37)) (RdH W 1 am L.length cm (ivs L) :: RdH W 1 xa xm xc (ivs xL) :: row wr.heap.size 0 [.int .i64 2, .int .i64 an, .slice xa xm xc] :: DiceA b L :: []) :=
                St.pick 1 (RdH.old rx (St.pick 2 s4))
              go_wp2_with (first
                | (go_at_call 16; refine refSome_c hst (by omega) ?_; rintro a5 c5 a6 c6 w5 s5; rw [HF3.out] at s5 ⊢; dsimp only at s5 ⊢; have hb5 := box3 (St.pick 2 s5); have hb51 := hb5.2.1; have hb52 := hb5.2.2; clear hb5)
                | (go_at_call 11; refine some_c (St.pick 3 s5) (rx.st s5) (by omega) ?_; rintro a7 n7 c7 w6 s6; rw [HF3.out] at s6; dsimp only at s6)
                | (go_at_call 17; refine same_c (OwnS.rd s6) (OwnS.rd (St.pick 3 s6)) ?_; rintro q; rw [decide_eq_true rfl]; have s7 := s6.drewN q)
                | (go_at_call 10; refine left_c (St.pick 1 s7) ?_))
              go_roundw
              case rel => exact ⟨k + 1, by go_num, by omega, a5, c5, L3, rfl, hle, s7.sel [1, 1]⟩
              case measure => simp [intOf]; omega
            · have hb0 : (kind == 0) = false := by simpa using hk0
              have hb1 : (kind == 1) = false := by simpa using hk1
              have hb2 : (kind == 2) = false := by simpa using hk2
              clear hk0 hk1 hk2
              obtain ⟨v, hv⟩ : ∃ v, drawV L (min (max an (-9)) 1099511627776) = v := ⟨_, rfl⟩
              obtain ⟨L2, hL2⟩ : ∃ L2, drawL L (min (max an (-9)) 1099511627776) = L2 := ⟨_, rfl⟩
              have hle : L2.length ≤ 40 + 30 * (k + 1) := by
                rw [← hL2]; have := drawL_le L (min (max an (-9)) 1099511627776); omega
              have HV := hid hv; have HL2 := hid hL2; clear hv hL2
              have hpp : (v != v) = false := by simp
              have hll2 : ((L2.length : Int) != (L2.length : Int)) = false := by simp
              go_wp2_with (first
                | (refine wpl_max rfl _ _ rfl rfl rfl ?_)
                | (refine wpl_min rfl _ _ rfl rfl rfl ?_)
                | (go_at_call 18; refine refDraw_c (St.pick 2 s4) (by omega) ?_; rintro a5 c5 q s5; rw [HV.out, HL2.out]; rw [HL2.out] at s5; have hb5 := (box3 (St.pick 1 s5)).2.1)
                | (go_at_call 9; refine draw_c (St.pick 2 s5) (by omega) ?_; rintro w6 s6; rw [HV.out]; rw [HL2.out] at s6)
                | (go_at_call 10; refine left_c s6 ?_))
              go_roundw
              case rel => exact ⟨k + 1, by go_num, by omega, a5, c5, L2, rfl, hle, (St.pick 2 s6).drop⟩
              case measure => simp [intOf]; omega
      · go_wp2
        exact HK.out _ sr.below
  · by_cases hf : fewB l = true
    · have h40 : ¬ na ≤ 40 := fun h => h1 ⟨h, hf⟩
      have HF := hid hf
      clear hf h1
      go_enter Try.func5, Try.ntmps5
      go_wp2_with (first
        | (go_at_call 6; refine speaks_c s0 ?_; rintro w1 s1)
        | (go_at_call 14; refine few_c s1 rl ?_; rintro w2 s2; rw [HF.out])
        | (go_at_call 6; refine speaks_c s2 ?_; rintro w3 s3))
      exact HK.out _ s3.below
    · have HF := hid (by simpa using hf : fewB l = false)
      clear hf h1
      go_enter Try.func5, Try.ntmps5
      go_wp2_with (first
        | (go_at_call 6; refine speaks_c s0 ?_; rintro w1 s1)
        | (go_at_call 14; refine few_c s1 rl ?_; rintro w2 s2; rw [HF.out])
        | (go_at_call 6; refine speaks_c s2 ?_; rintro w3 s3))
      exact HK.out _ s3.below

end Go.Proofs.Ytnibgchgcggfbaa
