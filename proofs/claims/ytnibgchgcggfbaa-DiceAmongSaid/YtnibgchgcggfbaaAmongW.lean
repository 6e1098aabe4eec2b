/- DiceAmong: the law's own walk. -/
import Derived.Test.YtnibgchgcggfbaaDiceS
import Derived.Test.YtnibgchgcggfbaaAmongL
import Derived.Test.YtnibgchgcggfbaaWithout
namespace Go.Proofs.Ytnibgchgcggfbaa
open Go.RowKit Go.Qd

set_option maxHeartbeats 1000000 in
theorem diceAmong_c {W : World} {post : Ending → World → Prop} {aa al : Option Addr} {na nl ca cl : Nat} {za zl : List Int} {k : Int}
    (ra : RdS W 1 aa na ca (ivs za)) (rl : RdS W 1 al nl cl (ivs zl)) 
    (K : ∀ w', Below W.heap.size W w' → post (.returned (.bool true)) w') : Calls Try.prog 4 #[.slice aa na ca, .slice al nl cl, .int .i64 k] W post := by
  have HK := hid K; clear K
  have hma := ra.big
  have hml := rl.big
  have s0 := St.init W
  by_cases h1 : na ≤ 60 ∧ nl ≤ 30
  · obtain ⟨h1, h2⟩ := h1
    have hll := hid (ivs_len rl)
    have hst : AmongAt (someF k.toNat za zl).2.1 (someF k.toNat za zl).2.2 0 zl := AmongAt.start
    have hm2 := (someF_perm k.toNat za zl).2
    obtain ⟨⟨L, O, Q⟩, hF⟩ : ∃ F, someF k.toNat za zl = F := ⟨_, rfl⟩
    rw [hF] at hst hm2
    have HF := hid hF; clear hF
    dsimp only at hst hm2
    obtain ⟨m, hm⟩ : ∃ m, O.length = m := ⟨_, rfl⟩
    rw [hm, hll.out] at hm2
    have HM := hid hm; clear hm
    have hcmp : ((m : Int) != min (max k 0) (nl : Int)) = false := by
      rw [bne_eq_false_iff_eq]; omega
    have hmn : m ≤ 30 := by omega
    clear hm2
    go_enter Try.func4, Try.ntmps4
    go_wp2_with (first
      | (go_at_call 6; refine speaks_c s0 ?_; rintro w1 s1)
      | (go_at_call 7; refine new_c s1 (ra.st s1) (by omega) ?_; rintro x w2 s2)
      | (go_at_call 11; refine some_c s2 (rl.st s2) (by omega) ?_; rintro a8 n8 c8 w8 s8; rw [HF.out] at s8; dsimp only at s8; have hn8 := ivs_len (OwnS.rd s8); rw [HM.out] at hn8; subst hn8)
      | (refine wpl_max rfl (.tmp 41) _ rfl rfl rfl ?_)
      | (refine wpl_min rfl (.tmp 42) (.tmp 44) rfl rfl rfl ?_)
      | (at_builtin; have s9 : St W (w8.alloc (.cells #[] 3)) (OwnS 1 (some ⟨w8.heap.size, 0, none⟩) 0 0 [] :: _) := OwnS.empty (St.alloc s8 #[] 3).drop _; refine wpl_append rfl (.tmp 47) (.tmp 48) rfl Try.elem22 rfl rfl s9 ((rl.st s8).alloc _) (by omega) (by unfold maxLen; omega) ?_; rintro a9 c9 w9 s10; rw [Nat.zero_add, List.nil_append] at s10; rw [Nat.zero_add]))
    go_loopw [9, 52] (fun rest jj wr => ∃ (j n9 c9 : Nat) (a9 : Option Addr) (Rr : List Int), j ≤ m ∧ jj = .int .i64 j ∧ rest = .slice a9 n9 c9 ∧ n9 ≤ 30 ∧ Hid (Rr.length = n9) ∧ AmongAt O Q j Rr ∧
        St W wr (OwnS 1 a9 n9 c9 (ivs Rr) :: OwnS 1 a8 m c8 (ivs O) :: DiceA x L :: [])) (fun _ jj _ => m - (intOf jj).toNat)
    case atStart => exact ⟨0, nl, c9, a9, zl, Nat.zero_le _, rfl, rfl, h2, hll, hst, s10⟩
    case round =>
      obtain ⟨j, n9, c9, a9, Rr, hj, rfl, rfl, hn9, hR, hat, sr⟩ := hrel
      by_cases hlt : j < m
      · obtain ⟨g, o, rfl⟩ := (OwnS.rd (St.pick 1 sr)).addr (by omega)
        have hjl : j < O.length := by rw [HM.out]; exact hlt
        have hc := (OwnS.rd (St.pick 1 sr)).at (ivs_get hjl)
        have hmem := hat.mem hjl
        have hstep := hid (fun q (hq : q < Rr.length) e => hat.step hjl hq e)
        obtain ⟨v, hv⟩ : ∃ v, O[j] = v := ⟨_, rfl⟩
        rw [hv] at hc hmem hstep
        clear hv
        go_wp2_with fail
        go_loop [12, 58] (fun at_ ii => ∃ (i : Nat) (q : Int), i ≤ n9 ∧ ii = .int .i64 i ∧ at_ = .int .i64 q ∧ FoundAt Rr v i q) (fun _ ii => n9 - (intOf ii).toNat)
        case atStart => exact ⟨0, -1, Nat.zero_le _, rfl, rfl, FoundAt.start _ _⟩
        case round =>
          obtain ⟨i, q, hi, rfl, rfl, hf⟩ := hrel
          by_cases hlt2 : i < n9
          · obtain ⟨g2, o2, rfl⟩ := (OwnS.rd sr).addr (by omega)
            have hil : i < Rr.length := by rw [hR.out]; exact hlt2
            have hc2 := (OwnS.rd sr).at (ivs_get hil)
            obtain ⟨x2, hx2⟩ : ∃ x2, Rr[i] = x2 := ⟨_, rfl⟩
            rw [hx2] at hc2
            have HX := hid hx2; clear hx2
            by_cases hxv : x2 = v
            · have hb : (x2 == v) = true := by rw [hxv]; simp
              have hhit := hid (fun h => FoundAt.hit (k := i) hil (HX.out.trans hxv) : True → FoundAt Rr v (i + 1) i)
              clear hxv
              by_cases hq : q < 0
              · go_wp2
                go_round
                case rel => exact ⟨i + 1, i, by omega, by go_num, rfl, hhit.out trivial⟩
                case measure => simp [intOf]; omega
              · go_wp2
                go_round
                case rel => exact ⟨i + 1, q, by omega, by go_num, rfl, hf.keep (by omega)⟩
                case measure => simp [intOf]; omega
            · have hb : (x2 == v) = false := by simpa using hxv
              have hmiss := hid (hf.miss hil (fun h => hxv (HX.out.symm.trans h)))
              clear hxv
              go_wp2
              go_round
              case rel => exact ⟨i + 1, q, by omega, by go_num, rfl, hmiss.out⟩
              case measure => simp [intOf]; omega
          · obtain ⟨qn, hq, hqr, he⟩ := hf.done (by rw [hR.out]; omega) hmem
            subst hq
            have hqn : qn < n9 := by rw [← hR.out]; exact hqr
            have hs2 := hid (hstep.out qn hqr he)
            clear hmem hf
            go_wp2_with (go_at_call 12; refine without_c sr OwnS.rds hqn (by omega) ?_; rintro a11 c11 w11 s11)
            go_roundw
            case rel => exact ⟨j + 1, n9 - 1, c11, a11, _, by omega, by go_num, rfl, by omega, by rw [List.length_eraseIdx, if_pos hqr, hR.out]; exact hid rfl, hs2.out, (St.pick 1 s11).drop⟩
            case measure => simp [intOf]; omega
      · have hjm : j = m := by omega
        subst hjm
        have s12 := St.pick 2 sr
        have hrd : Rds W (OwnS 1 a9 n9 c9 (ivs Rr) :: OwnS 1 a8 j c8 (ivs O) :: []) 1 a9 n9 c9 (ivs Rr) := OwnS.rds
        obtain ⟨p, hp⟩ : ∃ p, (if Rr = [] then 0 else pickV L Rr) = p := ⟨_, rfl⟩
        obtain ⟨b13, hb13⟩ : ∃ b13, (!Rr.isEmpty) = b13 := ⟨_, rfl⟩
        have hpb : (n9 = 0 ∧ b13 = false) ∨ (0 < n9 ∧ b13 = true ∧ p ∈ Rr) := by
          rcases Nat.eq_zero_or_pos n9 with h0 | h0
          · subst h0
            have hr0 : Rr = [] := List.eq_nil_of_length_eq_zero hR.out
            subst hr0
            exact .inl ⟨rfl, by rw [← hb13]; rfl⟩
          · have hr0 : Rr ≠ [] := fun h => by have := hR.out; rw [h] at this; simp at this; omega
            refine .inr ⟨h0, by rw [← hb13]; cases Rr <;> simp at hr0 ⊢, ?_⟩
            rw [← hp, if_neg hr0]
            exact pickV_mem hr0
        have HP := hid hp; have HB := hid hb13; clear hp hb13
        rcases hpb with ⟨h0, rfl⟩ | ⟨h0, rfl, hin⟩
        · have h0' : n9 < 1 := by omega
          clear h0
          go_wp2_with (go_at_call 13; refine pick_c s12 hrd ?_; rintro w13 s13; rw [HP.out, HB.out])
          go_loop [17, 86] (fun in_ ii => in_ = .bool false ∧ ii = .int .i64 0) (fun _ _ => 0)
          case atStart => exact ⟨rfl, rfl⟩
          case round =>
            obtain ⟨rfl, rfl⟩ := hrel
            have hlt3 : ¬ (0 : Int) < (n9 : Int) := by omega
            go_wp2
            exact HK.out _ s13.below
        · have HI := hid hin; clear hin
          go_wp2_with (go_at_call 13; refine pick_c s12 hrd ?_; rintro w13 s13; rw [HP.out, HB.out])
          go_loop [17, 86] (fun in_ ii => ∃ (i : Nat) (b : Bool), i ≤ n9 ∧ ii = .int .i64 i ∧ in_ = .bool b ∧ Hid (b = decide (p ∈ Rr.take i))) (fun _ ii => n9 - (intOf ii).toNat)
          case atStart => exact ⟨0, false, Nat.zero_le _, rfl, rfl, hid (by simp)⟩
          case round =>
            obtain ⟨i, b, hi, rfl, rfl, hb⟩ := hrel
            by_cases hlt3 : i < n9
            · obtain ⟨g2, o2, rfl⟩ := (OwnS.rd (St.pick 1 s13)).addr (by omega)
              have hil : i < Rr.length := by rw [hR.out]; exact hlt3
              have hc2 := (OwnS.rd (St.pick 1 s13)).at (ivs_get hil)
              have htk := take_mem hil (p := p)
              obtain ⟨x2, hx2⟩ : ∃ x2, Rr[i] = x2 := ⟨_, rfl⟩
              rw [hx2] at hc2 htk
              have HT := hid htk
              clear hx2 htk
              cases b with
              | true =>
                have hb2 := hid (show true = decide (p ∈ Rr.take (i + 1)) by rw [HT.out, ← hb.out]; rfl)
                go_wp2
                go_round
                case rel => exact ⟨i + 1, true, by omega, by go_num, rfl, hb2⟩
                case measure => simp [intOf]; omega
              | false =>
                have hb2 := hid (show (x2 == p) = decide (p ∈ Rr.take (i + 1)) by rw [HT.out, ← hb.out, Bool.false_or, Bool.eq_iff_iff, beq_iff_eq, decide_eq_true_eq])
                go_wp2
                go_round
                case rel => exact ⟨i + 1, x2 == p, by omega, by go_num, rfl, hb2⟩
                case measure => simp [intOf]; omega
            · have hbt : b = true := by
                rw [hb.out, List.take_of_length_le (by rw [hR.out]; omega)]
                simpa using HI.out
              subst hbt
              go_wp2
              exact HK.out _ s13.below
  · go_enter Try.func4, Try.ntmps4
    go_wp2_with (first
      | (go_at_call 6; refine speaks_c s0 ?_; rintro w1 s1)
      | (go_at_call 6; refine speaks_c s1 ?_; rintro w2 s2))
    all_goals exact HK.out _ s2.below

end Go.Proofs.Ytnibgchgcggfbaa
