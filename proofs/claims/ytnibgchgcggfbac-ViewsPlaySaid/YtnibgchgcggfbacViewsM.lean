/- ViewsMove: the law's own walk. -/
import Derived.Test.YtnibgchgcggfbacViewsS
import Derived.Test.YtnibgchgcggfbacActs
namespace Go.Proofs.Ytnibgchgcggfbac
open Go.RowKit Go.Qd

/-- Where the loop stands. -/
def ViewsAt (W : World) (b d : Nat) (V : VV) (D : List Int) (wr : World) : Prop := VOK V ∧ St W wr (ViewsA b V :: DiceA d D :: [])

set_option maxRecDepth 100000 in
set_option maxHeartbeats 8000000 in
theorem viewsMove_c {W : World} {post : Ending → World → Prop} {ad al : Option Addr} {nd nl cd cl : Nat} {zd : List Int} {l : List ActV} {self am pm : Nat}
    (h0 : self ≤ 255) (h1 : am ≤ 255) (h2 : pm ≤ 255) (rd : RdS W 1 ad nd cd (ivs zd)) (rl : RdS W 3 al nl cl (actCells l))
    (K : ∀ w', Below W.heap.size W w' → post (.returned (.bool true)) w') : Calls Try.prog 3 #[.int .u8 self, .int .u8 am, .int .u8 pm, .slice ad nd cd, .slice al nl cl] W post := by
  have HK := hid K; clear K
  have hml := rl.big
  have hmd := rd.big
  have s0 := St.init W
  have hll := hid (actCells_len rl)
  by_cases hg : nl ≤ 60 ∧ nd ≤ 100
  · obtain ⟨hg1, hg2⟩ := hg
    have hnew : nodeB ((self : Int) % 12) = true ∧ (1 ≤ 1 + (am : Int) % 11 ∧ 1 + (am : Int) % 11 < 12) ∧ (1 ≤ 1 + (pm : Int) % 11 ∧ 1 + (pm : Int) % 11 < 12) := by
      rw [nodeB_iff]; omega
    have HN := hid hnew
    clear hnew
    go_enter Try.func3, Try.ntmps3
    go_wp2_with (first
      | (go_at_call 6; refine speaks_c s0 ?_; rintro w1 s1)
      | (go_at_call 7; refine views_new_c s1 HN.out ?_; rintro b w2 s2)
      | (go_at_call 8; refine new_c s2 (rd.st s2) (by omega) ?_; rintro d w3 s3))
    go_loopw [60] (fun ii wr => ∃ (k : Nat) (V : VV) (D : List Int), k ≤ nl ∧ ii = .int .i64 k ∧ Hid (ViewsAt W b d V D wr)) (fun ii _ => nl - (intOf ii).toNat)
    case atStart => exact ⟨0, _, zd, Nat.zero_le _, rfl, hid ⟨VOK.start HN.out, St.pick 1 s3⟩⟩
    case round =>
      obtain ⟨k, V, D, hk, rfl, hT⟩ := hrel
      obtain ⟨hV, sr⟩ := hT.out
      have HV := hid hV
      clear hV hT
      by_cases hlt : k < nl
      · obtain ⟨g, o, rfl⟩ := rl.addr (by omega)
        have hkl : k < l.length := by rw [hll.out]; exact hlt
        obtain ⟨c0, c1, c2⟩ := act_at (rl.st sr) hkl
        obtain ⟨x, hx⟩ : ∃ x, l[k] = x := ⟨_, rfl⟩
        rw [hx] at c0 c1 c2
        clear hx
        obtain ⟨xk, q, ask⟩ := x
        dsimp only at c0 c1 c2
        have hal : V.a.length ≤ 4096 := Nat.le_trans HV.out.na4 (by omega)
        have HAL := hid hal
        have s4 : St W _ (ViewsA b V :: row wr.heap.size 0 [.int .i64 xk, .int .i64 q, .int .i64 ask] :: DiceA d D :: []) := St.pick 1 (sr.alloc #[.int .i64 xk, .int .i64 q, .int .i64 ask] 32)
        obtain ⟨was, hwas⟩ : ∃ was, memB V.a q = was := ⟨_, rfl⟩
        obtain ⟨full, hfull⟩ : ∃ full, decide (V.am ≤ (V.a.length : Int)) = full := ⟨_, rfl⟩
        obtain ⟨room, hroom⟩ : ∃ room, V.a.length = room := ⟨_, rfl⟩
        have HW := hid hwas; have HF := hid hfull; have HR := hid hroom
        have hr96 : room ≤ 4096 := by omega
        clear hwas hfull hroom hal
        by_cases hk0 : xk = 0
        · subst hk0
          obtain ⟨ok, hok⟩ : ∃ ok, raiseOk V q = ok := ⟨_, rfl⟩
          have HOK := hid hok
          clear hok
          cases ok with
          | false =>
            go_wp2_with (first
              | (go_at_call 9; refine isActive_c s4 ?_; rw [HW.out])
              | (go_at_call 10; refine vfull_c s4 ?_; rintro w5 s5; rw [HF.out])
              | (go_at_call 11; refine active_c s5 HAL.out ?_; rintro a6 c6 w6 s6'; rw [HR.out] at s6' ⊢; have s6 : St W w6 (ViewsA b V :: DiceA d D :: _ :: _ :: []) := s6'.perm [1, 2]; obtain ⟨y0, y1, y2⟩ := box3 (St.pick 3 s6))
              | (go_at_call 12; refine raise_no s6 HOK.out ?_)
              | (go_at_call 9; refine isActive_c s6 ?_; rw [HW.out]))
            all_goals
              go_roundw
              case rel => exact ⟨k + 1, V, D, by omega, by go_num, hid ⟨HV.out, s6.sel [0, 0]⟩⟩
              case measure => simp [intOf]; omega
          | true =>
            obtain ⟨t1, t2, t3⟩ := raise_told HV.out (D := D) HOK.out
            obtain ⟨gg, hgg⟩ : ∃ gg, raiseG V D = gg := ⟨_, rfl⟩
            have hfe : full = decide (0 ≤ gg) := by rw [← HF.out, ← hgg]; exact decide_eq_decide.2 (raiseG_iff HV.out).symm
            have hwf : was = false := by rw [← HW.out]; exact t2
            subst hwf
            rw [hgg] at t3
            have HG := hid hgg; have T1 := hid t1; have T3 := hid t3
            clear hgg t1 t2 t3
            by_cases h0 : 0 ≤ gg
            · rw [decide_eq_true h0] at hfe
              subst hfe
              go_wp2_with (first
                | (go_at_call 9; refine isActive_c s4 ?_; rw [HW.out])
                | (go_at_call 10; refine vfull_c s4 ?_; rintro w5 s5; rw [HF.out])
                | (go_at_call 11; refine active_c s5 HAL.out ?_; rintro a6 c6 w6 s6'; rw [HR.out] at s6' ⊢; have s6 : St W w6 (ViewsA b V :: DiceA d D :: _ :: _ :: []) := s6'.perm [1, 2]; obtain ⟨y0, y1, y2⟩ := box3 (St.pick 3 s6))
                | (go_at_call 12; refine raise_yes s6 HV.out HOK.out ?_; rintro w7 s7; rw [HG.out]; obtain ⟨z0, z1, z2⟩ := box3 (St.pick 3 s7))
                | (go_at_call 9; refine isActive_c s7 ?_; first | rw [T1.out] | rw [(T3.out h0).1])
                | (go_at_call 13; refine isPassive_c s7 ?_; rw [(T3.out h0).2]))
              go_roundw
              case rel => exact ⟨k + 1, _, _, by omega, by go_num, hid ⟨HV.out.raise D q, s7.sel [0, 0]⟩⟩
              case measure => simp [intOf]; omega
            · rw [decide_eq_false h0] at hfe
              subst hfe
              go_wp2_with (first
                | (go_at_call 9; refine isActive_c s4 ?_; rw [HW.out])
                | (go_at_call 10; refine vfull_c s4 ?_; rintro w5 s5; rw [HF.out])
                | (go_at_call 11; refine active_c s5 HAL.out ?_; rintro a6 c6 w6 s6'; rw [HR.out] at s6' ⊢; have s6 : St W w6 (ViewsA b V :: DiceA d D :: _ :: _ :: []) := s6'.perm [1, 2]; obtain ⟨y0, y1, y2⟩ := box3 (St.pick 3 s6))
                | (go_at_call 12; refine raise_yes s6 HV.out HOK.out ?_; rintro w7 s7; rw [HG.out]; obtain ⟨z0, z1, z2⟩ := box3 (St.pick 3 s7))
                | (go_at_call 9; refine isActive_c s7 ?_; rw [T1.out]))
              go_roundw
              case rel => exact ⟨k + 1, _, _, by omega, by go_num, hid ⟨HV.out.raise D q, s7.sel [0, 0]⟩⟩
              case measure => simp [intOf]; omega
        · by_cases hk1 : xk = 1
          · subst hk1
            obtain ⟨t1, t2⟩ := lower_told HV.out (D := D) (q := q)
            rw [HW.out] at t2
            have T1 := hid t1; have T2 := hid t2
            clear t1 t2 hk0
            have hal2 : (lowerV V D q).a.length ≤ 4096 := Nat.le_trans (HV.out.lower D q).na4 (by omega)
            have HAL2 := hid hal2
            obtain ⟨room2, hroom2⟩ : ∃ room2, (lowerV V D q).a.length = room2 := ⟨_, rfl⟩
            have HR2 := hid hroom2
            clear hal2 hroom2
            cases was with
            | false =>
              go_wp2_with (first
                | (go_at_call 9; refine isActive_c s4 ?_; rw [HW.out])
                | (go_at_call 10; refine vfull_c s4 ?_; rintro w5 s5; rw [HF.out])
                | (go_at_call 11; refine active_c s5 HAL.out ?_; rintro a6 c6 w6 s6'; rw [HR.out] at s6' ⊢; have s6 : St W w6 (ViewsA b V :: DiceA d D :: _ :: _ :: []) := s6'.perm [1, 2]; obtain ⟨y0, y1, y2⟩ := box3 (St.pick 3 s6))
                | (go_at_call 14; refine lower_c s6 HV.out ?_; rintro w7 s7; rw [HW.out]; obtain ⟨z0, z1, z2⟩ := box3 (St.pick 3 s7))
                | (go_at_call 9; refine isActive_c s7 ?_; rw [T1.out]))
              go_roundw
              case rel => exact ⟨k + 1, _, _, by omega, by go_num, hid ⟨HV.out.lower D q, s7.sel [0, 0]⟩⟩
              case measure => simp [intOf]; omega
            | true =>
              have T3 := hid (T2.out rfl)
              have hrr : ((room2 : Int) != (room : Int) - 1) = false := by
                have := (T2.out rfl).2
                rw [HR.out, HR2.out] at this
                simp; omega
              have hrr1 : 1 ≤ (room : Int) := by
                have := (T2.out rfl).2
                rw [HR.out, HR2.out] at this
                omega
              go_wp2_with (first
                | (go_at_call 9; refine isActive_c s4 ?_; rw [HW.out])
                | (go_at_call 10; refine vfull_c s4 ?_; rintro w5 s5; rw [HF.out])
                | (go_at_call 11; refine active_c s5 HAL.out ?_; rintro a6 c6 w6 s6'; rw [HR.out] at s6' ⊢; have s6 : St W w6 (ViewsA b V :: DiceA d D :: _ :: _ :: []) := s6'.perm [1, 2]; obtain ⟨y0, y1, y2⟩ := box3 (St.pick 3 s6))
                | (go_at_call 14; refine lower_c s6 HV.out ?_; rintro w7 s7; rw [HW.out]; obtain ⟨z0, z1, z2⟩ := box3 (St.pick 3 s7))
                | (go_at_call 9; refine isActive_c s7 ?_; rw [T1.out])
                | (go_at_call 13; refine isPassive_c s7 ?_; rw [T3.out.1])
                | (go_at_call 11; refine active_c s7 HAL2.out ?_; rintro a8 c8 w8 s8; rw [HR2.out] at s8 ⊢))
              go_roundw
              case rel => exact ⟨k + 1, _, _, by omega, by go_num, hid ⟨HV.out.lower D q, s8.sel [1, 1]⟩⟩
              case measure => simp [intOf]; omega
          · obtain ⟨t1, t2⟩ := learn_told (V := V) (D := D) (q := q)
            have T1 := hid t1; have T2 := hid t2
            have HAL2 := hid (show (learnV V D q).a.length ≤ 4096 by rw [t1]; exact HAL.out)
            clear t1 t2
            obtain ⟨ok, hok⟩ : ∃ ok, learnOk V q = ok := ⟨_, rfl⟩
            have HOK := hid hok
            clear hok
            cases ok with
            | false =>
              go_wp2_with (first
                | (go_at_call 9; refine isActive_c s4 ?_; rw [HW.out])
                | (go_at_call 10; refine vfull_c s4 ?_; rintro w5 s5; rw [HF.out])
                | (go_at_call 11; refine active_c s5 HAL.out ?_; rintro a6 c6 w6 s6'; rw [HR.out] at s6' ⊢; have s6 : St W w6 (ViewsA b V :: DiceA d D :: _ :: _ :: []) := s6'.perm [1, 2]; obtain ⟨y0, y1, y2⟩ := box3 (St.pick 3 s6))
                | (go_at_call 15; refine learn_no s6 HOK.out ?_)
                | (go_at_call 9; refine isActive_c s6 ?_; rw [HW.out])
                | (go_at_call 11; refine active_c s6 HAL.out ?_; rintro a8 c8 w8 s8; rw [HR.out] at s8 ⊢))
              all_goals
                go_roundw
                case rel => exact ⟨k + 1, V, D, by omega, by go_num, hid ⟨HV.out, s8.sel [1, 1]⟩⟩
                case measure => simp [intOf]; omega
            | true =>
              go_wp2_with (first
                | (go_at_call 9; refine isActive_c s4 ?_; rw [HW.out])
                | (go_at_call 10; refine vfull_c s4 ?_; rintro w5 s5; rw [HF.out])
                | (go_at_call 11; refine active_c s5 HAL.out ?_; rintro a6 c6 w6 s6'; rw [HR.out] at s6' ⊢; have s6 : St W w6 (ViewsA b V :: DiceA d D :: _ :: _ :: []) := s6'.perm [1, 2]; obtain ⟨y0, y1, y2⟩ := box3 (St.pick 3 s6))
                | (go_at_call 15; refine learn_yes s6 HV.out HOK.out ?_; rintro w7 s7; obtain ⟨z0, z1, z2⟩ := box3 (St.pick 3 s7))
                | (go_at_call 9; refine isActive_c s7 ?_; rw [T1.out, HW.out])
                | (go_at_call 13; refine isPassive_c s7 ?_; rw [T2.out HOK.out])
                | (go_at_call 11; refine active_c s7 HAL2.out ?_; rintro a8 c8 w8 s8; rw [T1.out, HR.out] at s8 ⊢))
              all_goals
                go_roundw
                case rel => exact ⟨k + 1, _, _, by omega, by go_num, hid ⟨HV.out.learn D q, s8.sel [1, 1]⟩⟩
                case measure => simp [intOf]; omega
      · go_wp2
        exact HK.out _ sr.below
  · clear hll
    by_cases hg1 : nl ≤ 60
    · have hg2 : ¬ nd ≤ 100 := fun h => hg ⟨hg1, h⟩
      clear hg
      go_enter Try.func3, Try.ntmps3
      go_wp2_with (first
        | (go_at_call 6; refine speaks_c s0 ?_; rintro w1 s1)
        | (go_at_call 6; refine speaks_c s1 ?_; rintro w2 s2))
      exact HK.out _ s2.below
    · clear hg
      go_enter Try.func3, Try.ntmps3
      go_wp2_with (first
        | (go_at_call 6; refine speaks_c s0 ?_; rintro w1 s1)
        | (go_at_call 6; refine speaks_c s1 ?_; rintro w2 s2))
      exact HK.out _ s2.below

end Go.Proofs.Ytnibgchgcggfbac
