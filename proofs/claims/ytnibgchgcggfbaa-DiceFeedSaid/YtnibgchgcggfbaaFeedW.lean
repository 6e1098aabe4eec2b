/- DiceFeed: the law's own walk. -/
import Derived.Test.YtnibgchgcggfbaaDiceS
namespace Go.Proofs.Ytnibgchgcggfbaa
open Go.RowKit Go.Qd

set_option maxHeartbeats 1000000 in
theorem diceFeed_c {W : World} {post : Ending → World → Prop} {aa ab al : Option Addr} {na nb nl ca cb cl : Nat} {za bs ls : List Int}
    (ra : RdS W 1 aa na ca (ivs za)) (rb : RdS W 1 ab nb cb (ivs bs)) (rl : RdS W 1 al nl cl (ivs ls)) (hw : ∀ z ∈ ls, z ≤ 9223372036854775807)
    (K : ∀ w', Below W.heap.size W w' → post (.returned (.bool true)) w') : Calls Try.prog 3 #[.slice aa na ca, .slice ab nb cb, .slice al nl cl] W post := by
  have HK := hid K; clear K
  have hma := ra.big
  have hmb := rb.big
  have hml := rl.big
  have s0 := St.init W
  by_cases h1 : na ≤ 40 ∧ nb ≤ 40 ∧ nl ≤ 80
  · obtain ⟨h1, h2, h3⟩ := h1
    go_enter Try.func3, Try.ntmps3
    go_wp2_with (first
      | (go_at_call 6; refine speaks_c s0 ?_; rintro w1 s1; have r1 := (ra.st s1).alloc (.cells #[] 3); have r2 := rb.st s1; have s2 : St W (w1.alloc (.cells #[] 3)) (OwnS 1 (some ⟨w1.heap.size, 0, none⟩) 0 0 [] :: []) := OwnS.empty (St.alloc s1 #[] 3).drop _)
      | (at_builtin; refine wpl_append rfl (.tmp 30) (.tmp 31) rfl Try.elem22 rfl rfl s2 r1 (by omega) (by unfold maxLen; omega) ?_; rintro a3 c3 w3 s3; rw [Nat.zero_add] at s3 ⊢; have r3 := rb.st s3)
      | (at_builtin; refine wpl_append rfl (.tmp 32) (.tmp 33) rfl Try.elem22 rfl rfl s3 r3 (by omega) (by unfold maxLen; omega) ?_; rintro a4 c4 w4 s4; rw [List.nil_append, ← ivs_append] at s4)
      | (go_at_call 7; refine new_c s4 (OwnS.rd s4) (by omega) ?_; rintro x w5 s5)
      | (go_at_call 7; refine new_c s5 (ra.st s5) (by omega) ?_; rintro y w6 s6))
    have hll := hid (ivs_len rl)
    have hza := hid (ivs_len ra)
    go_wp2_with (go_at_call 8; refine feed_c s6 (rb.st s6) (by have := hza.out; omega) ?_; rintro w8 s8)
    go_loopw [49] (fun i wr => ∃ (k : Nat) (L : List Int), k ≤ nl ∧ i = .int .i64 k ∧ St W wr (DiceA y L :: DiceA x L :: OwnS 1 a4 (na + nb) c4 (ivs (za ++ bs)) :: [])) (fun i _ => nl - (intOf i).toNat)
    case atStart => exact ⟨0, _, Nat.zero_le _, rfl, s8⟩
    case round =>
      obtain ⟨k, L, hk, rfl, sr⟩ := hrel
      by_cases hlt : k < nl
      · obtain ⟨g, o, rfl⟩ := rl.addr (by omega)
        have hkl : k < ls.length := by rw [hll.out]; exact hlt
        have hc := (rl.st sr).at (ivs_get hkl)
        have hz := hw ls[k] (List.getElem_mem hkl)
        obtain ⟨z, hz'⟩ : ∃ z, ls[k] = z := ⟨_, rfl⟩
        rw [hz'] at hc hz
        clear hz'
        obtain ⟨v, hv⟩ : ∃ v, drawV L z = v := ⟨_, rfl⟩
        have hv0 : 0 ≤ v ∧ (0 < z → v < z) := by
          subst hv
          by_cases h : 1 ≤ z
          · have := drawV_range (l := L) h
            exact ⟨this.1, fun _ => this.2⟩
          · have : drawV L z = 0 := by cases L <;> simp [drawV]; omega
            rw [this]; exact ⟨Int.le_refl _, fun h' => by omega⟩
        obtain ⟨hv1, hv2⟩ := hv0
        have HV := hid hv; clear hv
        have hne : (v != v) = false := by simp
        have hlen : (((drawL L z).length : Int) != ((drawL L z).length : Int)) = false := by simp
        by_cases hz0 : 0 < z
        · have hv3 := hv2 hz0
          clear hv2
          go_wp2_with (first
            | (go_at_call 9; refine draw_c (St.pick 1 sr) hz ?_; rintro w9 s9; rw [HV.out])
            | (go_at_call 9; refine draw_c (St.pick 1 s9) hz ?_; rintro w10 s10; rw [HV.out])
            | (go_at_call 10; refine left_c (St.pick 1 s10) ?_)
            | (go_at_call 10; refine left_c s10 ?_))
          go_roundw
          case rel => exact ⟨k + 1, _, by omega, by go_num, s10⟩
          case measure => simp [intOf]; omega
        · clear hv2
          go_wp2_with (first
            | (go_at_call 9; refine draw_c (St.pick 1 sr) hz ?_; rintro w9 s9; rw [HV.out])
            | (go_at_call 9; refine draw_c (St.pick 1 s9) hz ?_; rintro w10 s10; rw [HV.out])
            | (go_at_call 10; refine left_c (St.pick 1 s10) ?_)
            | (go_at_call 10; refine left_c s10 ?_))
          go_roundw
          case rel => exact ⟨k + 1, _, by omega, by go_num, s10⟩
          case measure => simp [intOf]; omega
      · go_wp2
        exact HK.out _ sr.below
  · go_enter Try.func3, Try.ntmps3
    go_wp2_with (first
      | (go_at_call 6; refine speaks_c s0 ?_; rintro w1 s1)
      | (go_at_call 6; refine speaks_c s1 ?_; rintro w2 s2))
    all_goals exact HK.out _ s2.below

end Go.Proofs.Ytnibgchgcggfbaa
