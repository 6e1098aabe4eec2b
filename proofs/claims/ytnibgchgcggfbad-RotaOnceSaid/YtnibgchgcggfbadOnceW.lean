/- RotaOnce: the law's own walk. -/
import Derived.Test.YtnibgchgcggfbadRotaS
import Derived.Test.YtnibgchgcggfbadIntsL
namespace Go.Proofs.Ytnibgchgcggfbad
open Go.RowKit Go.Qd

def anyEq (l : List Int) (n : Int) : Bool := l.any (fun x => x == n)
theorem anyEq_snoc {l : List Int} {j : Nat} (h : j < l.length) (n : Int) : anyEq (l.take (j + 1)) n = (anyEq (l.take j) n || (l[j] == n)) := by
  unfold anyEq; rw [List.take_succ_eq_append_getElem h, List.any_append]; simp
theorem anyEq_all {l : List Int} {n : Int} (h : n ∈ l) : anyEq l n = true := by unfold anyEq; rw [List.any_eq_true]; exact ⟨n, h, by simp⟩

/-- Where the first loop stands: S are those of the cycle. -/
structure OnceAt (W : World) (b : Nat) (S : List Int) (j : Nat) (p : Int) (L : List Int) (aT : Option Addr) (cT : Nat) (wr : World) : Prop where
  lt : j < S.length
  here : S[j]? = some p
  left : L = S.drop (j + 1)
  st : St W wr (RotaA b 3 1 L :: OwnS 1 aT j cT (ivs (S.take j)) :: [])

set_option maxRecDepth 100000 in
set_option maxHeartbeats 16000000 in
theorem rotaOnce_c {W : World} {post : Ending → World → Prop} {ak al : Option Addr} {nk nl ck cl : Nat} {zs : List Int} {l : List SV} (rk : RdS W 1 ak nk ck (ivs zs)) (rl : RdS W 1 al nl cl (slCells l)) (hok : ∀ x ∈ l, x.ok W)
    (K : ∀ w', Below W.heap.size W w' → post (.returned (.bool true)) w') : Calls Try.prog 5 #[.slice ak nk ck, .slice al nl cl] W post := by
  have HK := hid K; clear K
  have hml := rl.big
  have hmk := rk.big
  have s0 := St.init W
  have hll := hid (slCells_len rl)
  have hkl := hid (ivs_len rk)
  have HOK := hid hok; clear hok
  by_cases hg : nk ≤ 20 ∧ 0 < nk ∧ nl ≤ 60
  · obtain ⟨hg1, hg2, hg3⟩ := hg
    have hzs : zs ≠ [] := fun e => by have := hkl.out; rw [e] at this; simp at this; omega
    obtain ⟨p0, L0, hS⟩ : ∃ p0 L0, rotaL zs = p0 :: L0 := by
      cases h : rotaL zs with
      | nil => exact absurd h (rotaL_ne hzs)
      | cons p L => exact ⟨p, L, rfl⟩
    have hSl : (p0 :: L0).length ≤ 20 := by
      rw [← hS]; unfold rotaL
      refine Nat.le_trans (compact_le _) ?_
      rw [List.length_mergeSort, hkl.out]; exact hg1
    have hSs : (p0 :: L0).Pairwise (· < ·) := by rw [← hS]; exact rotaL_sorted zs
    have hSm : ∀ x, x ∈ p0 :: L0 ↔ x ∈ zs := fun x => by rw [← hS]; exact mem_rotaL
    have HS := hid hS; have HSL := hid hSl; have HSS := hid hSs; have HSM := hid hSm; have HZS := hid hzs
    have hk0 : ((nk : Int) == 0) = false := by simp; omega
    clear hS hSl hSs hSm hzs
    go_enter Try.func5, Try.ntmps5
    go_wp2_with (first
      | (go_at_call 6; refine speaks_c s0 ?_; rintro w1 s1)
      | (go_at_call 7; refine rota_new_c s1 (by decide) ?_; rintro b w2 s2)
      | (go_at_call 8; refine next_new s2 (rk.rds _) HZS.out (by omega) HS.out (by decide) (by decide) ?_; rintro w3 s3; rw [show (((0 : Int) + 1) % 3 == 0) = false from rfl]))
    go_loopw [7, 8, 9, 10, 60] (fun tv pv fv ov ii wr => ∃ (j : Nat) (p : Int) (L : List Int) (aT : Option Addr) (cT : Nat), j ≤ nl ∧ ii = .int .i64 j ∧ tv = .slice aT j cT ∧ pv = .int .i64 p ∧ fv = .bool false ∧ ov = .bool true ∧ Hid (OnceAt W b (p0 :: L0) j p L aT cT wr)) (fun _ _ _ _ ii _ => nl - (intOf ii).toNat)
    case atStart => exact ⟨0, p0, L0, none, 0, Nat.zero_le _, rfl, rfl, rfl, rfl, rfl, hid ⟨by simp, rfl, rfl, (OwnS.none0 s3).perm [1]⟩⟩
    case round =>
      obtain ⟨j, p, L, aT, cT, hj, rfl, rfl, rfl, rfl, rfl, hO⟩ := hrel
      have sr := hO.out.st
      have hL20 : L.length ≤ 4096 := by have := HSL.out; rw [hO.out.left, List.length_drop]; omega
      have HL20 := hid hL20
      have hj20 : j ≤ 20 := by have := hO.out.lt; have := HSL.out; omega
      clear hL20
      by_cases hlt : j < nl
      · obtain ⟨g, o, rfl⟩ := rl.addr (by omega)
        have hkl2 : j < l.length := by rw [hll.out]; exact hlt
        have hc0 := (rl.st sr).at (slCells_get hkl2)
        have hxok := HOK.out _ (List.getElem_mem hkl2)
        obtain ⟨x, hx⟩ : ∃ x, l[j] = x := ⟨_, rfl⟩
        rw [hx] at hc0 hxok
        clear hx
        obtain ⟨xa, xn, xc, xL⟩ := x
        dsimp only [SV.val] at hc0
        have rx : RdS W 1 xa xn xc (ivs xL) := hxok
        clear hxok
        by_cases h20 : xn ≤ 20
        · cases hLc : L with
          | nil =>
            clear hll HOK rl hml
            have hh := hO.out
            have hTT : (p0 :: L0).take j ++ [p] = (p0 :: L0).take (j + 1) := by rw [List.take_add_one, hh.here]; rfl
            have hTl : ((p0 :: L0).take (j + 1)).length = j + 1 := by rw [List.length_take]; have := hh.lt; omega
            have hTm : ∀ x, x ∈ (p0 :: L0).take (j + 1) → x ∈ zs := fun x hx => (HSM.out x).1 (List.mem_of_mem_take hx)
            have hTs : ((p0 :: L0).take (j + 1)).Pairwise (· < ·) := HSS.out.sublist (List.take_sublist _ _)
            have hTa : L = [] → ∀ x, x ∈ zs → x ∈ (p0 :: L0).take (j + 1) := fun e x hx => by
              have h1 := hh.left
              rw [e] at h1
              have h2 := List.drop_eq_nil_iff.1 h1.symm
              rw [List.take_of_length_le h2]
              exact (HSM.out x).2 hx
            obtain ⟨T, hT⟩ : ∃ T, (p0 :: L0).take (j + 1) = T := ⟨_, rfl⟩
            rw [hT] at hTT hTl hTm hTs hTa
            have HTT := hid hTT; have HTL := hid hTl; have HTM := hid hTm; have HTS := hid hTs; have HTA := hid hTa
            clear hh hTT hTl hTm hTs hTa hT hO
            have hb1 : (j + 1) * 8 ≤ 140737488355328 := by omega
            have hm1 : j + 1 ≤ maxLen := by unfold maxLen; omega

            go_wp2_with (first
              | (go_at_call 14; refine rleft_c sr HL20.out ?_; rintro a4 c4 w4 s4'; rw [hLc, List.length_nil]; have s4 : St W w4 (RotaA b 3 1 L :: OwnS 1 aT j cT (ivs ((p0 :: L0).take j)) :: []) := s4'.drop; have s5 := s4.alloc #[.int .i64 p] 3)
              | (at_builtin; refine wpl_append rfl (.tmp 93) (.tmp 95) rfl Try.elem28 rfl rfl (St.pick 2 s5) (St.rowRd (n := 1) s5 rfl (by decide) (ivs_one [p])) hb1 hm1 ?_; rintro a6 c6 w6 s6; have s7 : St W w6 (RotaA b 3 1 L :: OwnS 1 a6 (j + 1) c6 (ivs T) :: []) := (by have := s6.sel [2, 0]; rw [← HTT.out, ivs_append]; exact this)))
            clear s5 s6 sr
            go_loopw [99] (fun ii wx => ∃ i : Nat, i ≤ j + 1 ∧ ii = .int .i64 i ∧ St W wx (RotaA b 3 1 L :: OwnS 1 a6 (j + 1) c6 (ivs T) :: [])) (fun ii _ => j + 1 - (intOf ii).toNat)
            case atStart => exact ⟨0, Nat.zero_le _, rfl, s7⟩
            case round =>
              obtain ⟨i, hi, rfl, sx⟩ := hrel
              by_cases hil : i < j + 1
              · have rdt := OwnS.rd (St.pick 1 sx)
                obtain ⟨g6, o6, rfl⟩ := rdt.addr (by omega)
                have hiT : i < T.length := by rw [HTL.out]; exact hil
                have ci := rdt.at (ivs_get hiT)
                have hin := anyEq_all (HTM.out T[i] (List.getElem_mem hiT))
                have hprev : ∀ m, i = m + 1 → ∃ y, (∀ (w' : World) (s' : St W w' (RotaA b 3 1 L :: OwnS 1 (some ⟨g6, o6, none⟩) (j + 1) c6 (ivs T) :: [])), w'.cell? ⟨g6, o6 + m, none⟩ = some (iv y)) ∧ y < T[i] := fun m hm => by
                  have hmT : m < T.length := by omega
                  exact ⟨T[m], fun w' s' => (OwnS.rd (St.pick 1 s')).at (ivs_get hmT), List.pairwise_iff_getElem.1 HTS.out m i hmT hiT (by omega)⟩
                obtain ⟨n, hn⟩ : ∃ n, T[i] = n := ⟨_, rfl⟩
                rw [hn] at ci hin hprev
                have HIN := hid hin
                have HPREV := hid hprev
                clear hn hin hprev rdt
                go_wp2_with fail
                go_loopw [15, 106] (fun uv ii wx => ∃ t : Nat, t ≤ nk ∧ ii = .int .i64 t ∧ uv = .bool (anyEq (zs.take t) n) ∧ St W wx (RotaA b 3 1 L :: OwnS 1 (some ⟨g6, o6, none⟩) (j + 1) c6 (ivs T) :: [])) (fun _ ii _ => nk - (intOf ii).toNat)
                case atStart => exact ⟨0, Nat.zero_le _, rfl, rfl, sx⟩
                case round =>
                  obtain ⟨t, ht, rfl, rfl, sz⟩ := hrel
                  by_cases htl : t < nk
                  · obtain ⟨gk, ok, rfl⟩ := rk.addr (by omega)
                    have htK : t < zs.length := by rw [hkl.out]; exact htl
                    have ct := (rk.st sz).at (ivs_get htK)
                    have hst := anyEq_snoc htK n
                    obtain ⟨m, hm⟩ : ∃ m, zs[t] = m := ⟨_, rfl⟩
                    rw [hm] at ct hst
                    obtain ⟨bb, hbb⟩ : ∃ bb, anyEq (zs.take t) n = bb := ⟨_, rfl⟩
                    rw [hbb] at hst ⊢
                    have HST := hid hst
                    clear hm hst hbb
                    cases bb with
                    | true =>
                      go_wp2
                      go_roundw
                      case rel => exact ⟨t + 1, by omega, by go_num, by rw [HST.out]; rfl, sz⟩
                      case measure => simp [intOf]; omega
                    | false =>
                      by_cases hmn : m = n
                      · subst hmn
                        go_wp2
                        go_roundw
                        case rel => exact ⟨t + 1, by omega, by go_num, by rw [HST.out]; simp, sz⟩
                        case measure => simp [intOf]; omega
                      · have hne : (m == n) = false := by simpa using hmn
                        have HNE := hid hne
                        clear hmn
                        go_wp2
                        go_roundw
                        case rel => exact ⟨t + 1, by omega, by go_num, by rw [HST.out, HNE.out]; rfl, sz⟩
                        case measure => simp [intOf]; omega
                  · have hte : t = nk := by omega
                    subst hte
                    have htk : zs.take t = zs := List.take_of_length_le (by rw [hkl.out]; exact Nat.le_refl _)
                    rw [htk, HIN.out]
                    clear htk
                    cases i with
                    | zero =>
                      go_wp2
                      go_roundw
                      case rel => exact ⟨0 + 1, by omega, by go_num, sz⟩
                      case measure => first | (simp [intOf]; done) | (simp [intOf]; omega)
                    | succ m =>
                      obtain ⟨y, cy, hyn⟩ := HPREV.out m rfl
                      have cy1 := cy _ sz
                      clear cy
                      have hge : ¬ n ≤ y := by omega
                      go_wp2
                      go_roundw
                      case rel => exact ⟨m + 1 + 1, by omega, by go_num, sz⟩
                      case measure => simp [intOf]; omega
              · have hie : i = j + 1 := by omega
                subst hie
                cases hLe : L with
                | cons q M =>
                  subst hLe
                  go_wp2_with (go_at_call 14; refine rleft_c sx HL20.out ?_; rintro aE cE wE sE; rw [List.length_cons])
                  exact HK.out _ sE.below
                | nil =>
                  subst hLe
                  have HTB := hid (HTA.out rfl)
                  clear HTA
                  go_wp2_with (go_at_call 14; refine rleft_c sx HL20.out ?_; rintro aE cE wE sE'; have sE := sE'.drop; clear sE')
                  go_loopw [139] (fun ii wx => ∃ i : Nat, i ≤ nk ∧ ii = .int .i64 i ∧ St W wx (RotaA b 3 1 [] :: OwnS 1 a6 (j + 1) c6 (ivs T) :: [])) (fun ii _ => nk - (intOf ii).toNat)
                  case atStart => exact ⟨0, Nat.zero_le _, rfl, sE⟩
                  case round =>
                    obtain ⟨i, hi, rfl, sx⟩ := hrel
                    by_cases hil : i < nk
                    · obtain ⟨gk, ok, rfl⟩ := rk.addr (by omega)
                      have hiK : i < zs.length := by rw [hkl.out]; exact hil
                      have ci := (rk.st sx).at (ivs_get hiK)
                      have hin := anyEq_all (HTB.out zs[i] (List.getElem_mem hiK))
                      obtain ⟨n, hn⟩ : ∃ n, zs[i] = n := ⟨_, rfl⟩
                      rw [hn] at ci hin
                      have HIN := hid hin
                      clear hn hin
                      go_wp2_with fail
                      go_loopw [20, 145] (fun uv ii wx => ∃ t : Nat, t ≤ j + 1 ∧ ii = .int .i64 t ∧ uv = .bool (anyEq (T.take t) n) ∧ St W wx (RotaA b 3 1 [] :: OwnS 1 a6 (j + 1) c6 (ivs T) :: [])) (fun _ ii _ => j + 1 - (intOf ii).toNat)
                      case atStart => exact ⟨0, Nat.zero_le _, rfl, rfl, sx⟩
                      case round =>
                        obtain ⟨t, ht, rfl, rfl, sz⟩ := hrel
                        by_cases htl : t < j + 1
                        · have rdt := OwnS.rd (St.pick 1 sz)
                          obtain ⟨g6, o6, rfl⟩ := rdt.addr (by omega)
                          have htT : t < T.length := by rw [HTL.out]; exact htl
                          have ct := rdt.at (ivs_get htT)
                          have hst := anyEq_snoc htT n
                          obtain ⟨m, hm⟩ : ∃ m, T[t] = m := ⟨_, rfl⟩
                          rw [hm] at ct hst
                          obtain ⟨bb, hbb⟩ : ∃ bb, anyEq (T.take t) n = bb := ⟨_, rfl⟩
                          rw [hbb] at hst ⊢
                          have HST := hid hst
                          clear hm hst hbb rdt
                          cases bb with
                          | true =>
                            go_wp2
                            go_roundw
                            case rel => exact ⟨t + 1, by omega, by go_num, by rw [HST.out]; rfl, sz⟩
                            case measure => simp [intOf]; omega
                          | false =>
                            by_cases hmn : m = n
                            · subst hmn
                              have hmm : (m == m) = true := by simp
                              go_wp2
                              go_roundw
                              case rel => exact ⟨t + 1, by omega, by go_num, by rw [HST.out]; simp, sz⟩
                              case measure => simp [intOf]; omega
                            · have hne : (m == n) = false := by simpa using hmn
                              have hne2 : (n == m) = false := by simpa using fun e : n = m => hmn e.symm
                              have HNE := hid hne
                              clear hmn
                              go_wp2
                              go_roundw
                              case rel => exact ⟨t + 1, by omega, by go_num, by rw [HST.out, HNE.out]; rfl, sz⟩
                              case measure => simp [intOf]; omega
                        · have hte : t = j + 1 := by omega
                          subst hte
                          have htk : T.take (j + 1) = T := List.take_of_length_le (by rw [HTL.out]; exact Nat.le_refl _)
                          rw [htk, HIN.out]
                          clear htk
                          go_wp2
                          go_roundw
                          case rel => exact ⟨i + 1, by omega, by go_num, sz⟩
                          case measure => simp [intOf]; omega
                    · go_wp2_with (go_at_call 12; refine cycle_c sx ?_)
                      exact HK.out _ sx.below
          | cons q M =>
            subst hLc
            have hM : ((M.length : Int) + 1 == 0) = false := by simp; omega
            have hb1 : (j + 1) * 8 ≤ 140737488355328 := by omega
            have hm1 : j + 1 ≤ maxLen := by unfold maxLen; omega
            go_wp2_with (first
              | (go_at_call 14; refine rleft_c sr HL20.out ?_; rintro a4 c4 w4 s4'; rw [List.length_cons]; have s4 : St W w4 (RotaA b 3 1 (q :: M) :: OwnS 1 aT j cT (ivs ((p0 :: L0).take j)) :: []) := s4'.drop)
              | (go_at_call 12; refine cycle_c s4 ?_; have s5 := s4.alloc #[.int .i64 p] 3)
              | (at_builtin; refine wpl_append rfl (.tmp 81) (.tmp 83) rfl Try.elem28 rfl rfl (St.pick 2 s5) (St.rowRd (n := 1) s5 rfl (by decide) (ivs_one [p])) hb1 hm1 ?_; rintro a6 c6 w6 s6; have s7 : St W w6 (RotaA b 3 1 (q :: M) :: OwnS 1 a6 (j + 1) c6 (ivs ((p0 :: L0).take j ++ [p])) :: _ :: []) := (by have := s6.perm [2, 0]; rw [ivs_append]; exact this))
              | (go_at_call 8; refine next_take s7 (by decide) (by decide) ?_; rintro w8 s8; rw [show ((1 : Int) % 3 == 0) = false from rfl]))
            go_roundw
            case rel =>
              have hh := hO.out
              have h1 : j + 1 < (p0 :: L0).length := by
                have := congrArg List.length hh.left
                rw [List.length_drop, List.length_cons] at this; omega
              have h2 : (p0 :: L0).take j ++ [p] = (p0 :: L0).take (j + 1) := by
                rw [List.take_add_one, hh.here]; rfl
              have h3 := List.drop_eq_getElem_cons h1
              rw [← hh.left] at h3
              simp only [List.cons.injEq] at h3
              rw [h2] at s8
              exact ⟨j + 1, q, M, a6, c6, by omega, by go_num, rfl, rfl, rfl, rfl, hid ⟨h1, by rw [List.getElem?_eq_getElem h1, h3.1], h3.2, s8.sel [0, 0]⟩⟩
            case measure => simp [intOf]; omega
        · go_wp2
          exact HK.out _ sr.below
      · clear hll HOK rl hml
        have hh := hO.out
        have hTT : (p0 :: L0).take j ++ [p] = (p0 :: L0).take (j + 1) := by rw [List.take_add_one, hh.here]; rfl
        have hTl : ((p0 :: L0).take (j + 1)).length = j + 1 := by rw [List.length_take]; have := hh.lt; omega
        have hTm : ∀ x, x ∈ (p0 :: L0).take (j + 1) → x ∈ zs := fun x hx => (HSM.out x).1 (List.mem_of_mem_take hx)
        have hTs : ((p0 :: L0).take (j + 1)).Pairwise (· < ·) := HSS.out.sublist (List.take_sublist _ _)
        have hTa : L = [] → ∀ x, x ∈ zs → x ∈ (p0 :: L0).take (j + 1) := fun e x hx => by
          have h1 := hh.left
          rw [e] at h1
          have h2 := List.drop_eq_nil_iff.1 h1.symm
          rw [List.take_of_length_le h2]
          exact (HSM.out x).2 hx
        obtain ⟨T, hT⟩ : ∃ T, (p0 :: L0).take (j + 1) = T := ⟨_, rfl⟩
        rw [hT] at hTT hTl hTm hTs hTa
        have HTT := hid hTT; have HTL := hid hTl; have HTM := hid hTm; have HTS := hid hTs; have HTA := hid hTa
        clear hh hTT hTl hTm hTs hTa hT hO
        have hb1 : (j + 1) * 8 ≤ 140737488355328 := by omega
        have hm1 : j + 1 ≤ maxLen := by unfold maxLen; omega
        have s5 := sr.alloc #[.int .i64 p] 3
        go_wp2_with (first
          | (at_builtin; refine wpl_append rfl (.tmp 93) (.tmp 95) rfl Try.elem28 rfl rfl (St.pick 2 s5) (St.rowRd (n := 1) s5 rfl (by decide) (ivs_one [p])) hb1 hm1 ?_; rintro a6 c6 w6 s6; have s7 : St W w6 (RotaA b 3 1 L :: OwnS 1 a6 (j + 1) c6 (ivs T) :: []) := (by have := s6.sel [2, 0]; rw [← HTT.out, ivs_append]; exact this)))
        clear s5 s6 sr
        go_loopw [99] (fun ii wx => ∃ i : Nat, i ≤ j + 1 ∧ ii = .int .i64 i ∧ St W wx (RotaA b 3 1 L :: OwnS 1 a6 (j + 1) c6 (ivs T) :: [])) (fun ii _ => j + 1 - (intOf ii).toNat)
        case atStart => exact ⟨0, Nat.zero_le _, rfl, s7⟩
        case round =>
          obtain ⟨i, hi, rfl, sx⟩ := hrel
          by_cases hil : i < j + 1
          · have rdt := OwnS.rd (St.pick 1 sx)
            obtain ⟨g6, o6, rfl⟩ := rdt.addr (by omega)
            have hiT : i < T.length := by rw [HTL.out]; exact hil
            have ci := rdt.at (ivs_get hiT)
            have hin := anyEq_all (HTM.out T[i] (List.getElem_mem hiT))
            have hprev : ∀ m, i = m + 1 → ∃ y, (∀ (w' : World) (s' : St W w' (RotaA b 3 1 L :: OwnS 1 (some ⟨g6, o6, none⟩) (j + 1) c6 (ivs T) :: [])), w'.cell? ⟨g6, o6 + m, none⟩ = some (iv y)) ∧ y < T[i] := fun m hm => by
              have hmT : m < T.length := by omega
              exact ⟨T[m], fun w' s' => (OwnS.rd (St.pick 1 s')).at (ivs_get hmT), List.pairwise_iff_getElem.1 HTS.out m i hmT hiT (by omega)⟩
            obtain ⟨n, hn⟩ : ∃ n, T[i] = n := ⟨_, rfl⟩
            rw [hn] at ci hin hprev
            have HIN := hid hin
            have HPREV := hid hprev
            clear hn hin hprev rdt
            go_wp2_with fail
            go_loopw [15, 106] (fun uv ii wx => ∃ t : Nat, t ≤ nk ∧ ii = .int .i64 t ∧ uv = .bool (anyEq (zs.take t) n) ∧ St W wx (RotaA b 3 1 L :: OwnS 1 (some ⟨g6, o6, none⟩) (j + 1) c6 (ivs T) :: [])) (fun _ ii _ => nk - (intOf ii).toNat)
            case atStart => exact ⟨0, Nat.zero_le _, rfl, rfl, sx⟩
            case round =>
              obtain ⟨t, ht, rfl, rfl, sz⟩ := hrel
              by_cases htl : t < nk
              · obtain ⟨gk, ok, rfl⟩ := rk.addr (by omega)
                have htK : t < zs.length := by rw [hkl.out]; exact htl
                have ct := (rk.st sz).at (ivs_get htK)
                have hst := anyEq_snoc htK n
                obtain ⟨m, hm⟩ : ∃ m, zs[t] = m := ⟨_, rfl⟩
                rw [hm] at ct hst
                obtain ⟨bb, hbb⟩ : ∃ bb, anyEq (zs.take t) n = bb := ⟨_, rfl⟩
                rw [hbb] at hst ⊢
                have HST := hid hst
                clear hm hst hbb
                cases bb with
                | true =>
                  go_wp2
                  go_roundw
                  case rel => exact ⟨t + 1, by omega, by go_num, by rw [HST.out]; rfl, sz⟩
                  case measure => simp [intOf]; omega
                | false =>
                  by_cases hmn : m = n
                  · subst hmn
                    go_wp2
                    go_roundw
                    case rel => exact ⟨t + 1, by omega, by go_num, by rw [HST.out]; simp, sz⟩
                    case measure => simp [intOf]; omega
                  · have hne : (m == n) = false := by simpa using hmn
                    have HNE := hid hne
                    clear hmn
                    go_wp2
                    go_roundw
                    case rel => exact ⟨t + 1, by omega, by go_num, by rw [HST.out, HNE.out]; rfl, sz⟩
                    case measure => simp [intOf]; omega
              · have hte : t = nk := by omega
                subst hte
                have htk : zs.take t = zs := List.take_of_length_le (by rw [hkl.out]; exact Nat.le_refl _)
                rw [htk, HIN.out]
                clear htk
                cases i with
                | zero =>
                  go_wp2
                  go_roundw
                  case rel => exact ⟨0 + 1, by omega, by go_num, sz⟩
                  case measure => first | (simp [intOf]; done) | (simp [intOf]; omega)
                | succ m =>
                  obtain ⟨y, cy, hyn⟩ := HPREV.out m rfl
                  have cy1 := cy _ sz
                  clear cy
                  have hge : ¬ n ≤ y := by omega
                  go_wp2
                  go_roundw
                  case rel => exact ⟨m + 1 + 1, by omega, by go_num, sz⟩
                  case measure => simp [intOf]; omega
          · have hie : i = j + 1 := by omega
            subst hie
            cases hLe : L with
            | cons q M =>
              subst hLe
              go_wp2_with (go_at_call 14; refine rleft_c sx HL20.out ?_; rintro aE cE wE sE; rw [List.length_cons])
              exact HK.out _ sE.below
            | nil =>
              subst hLe
              have HTB := hid (HTA.out rfl)
              clear HTA
              go_wp2_with (go_at_call 14; refine rleft_c sx HL20.out ?_; rintro aE cE wE sE'; have sE := sE'.drop; clear sE')
              go_loopw [139] (fun ii wx => ∃ i : Nat, i ≤ nk ∧ ii = .int .i64 i ∧ St W wx (RotaA b 3 1 [] :: OwnS 1 a6 (j + 1) c6 (ivs T) :: [])) (fun ii _ => nk - (intOf ii).toNat)
              case atStart => exact ⟨0, Nat.zero_le _, rfl, sE⟩
              case round =>
                obtain ⟨i, hi, rfl, sx⟩ := hrel
                by_cases hil : i < nk
                · obtain ⟨gk, ok, rfl⟩ := rk.addr (by omega)
                  have hiK : i < zs.length := by rw [hkl.out]; exact hil
                  have ci := (rk.st sx).at (ivs_get hiK)
                  have hin := anyEq_all (HTB.out zs[i] (List.getElem_mem hiK))
                  obtain ⟨n, hn⟩ : ∃ n, zs[i] = n := ⟨_, rfl⟩
                  rw [hn] at ci hin
                  have HIN := hid hin
                  clear hn hin
                  go_wp2_with fail
                  go_loopw [20, 145] (fun uv ii wx => ∃ t : Nat, t ≤ j + 1 ∧ ii = .int .i64 t ∧ uv = .bool (anyEq (T.take t) n) ∧ St W wx (RotaA b 3 1 [] :: OwnS 1 a6 (j + 1) c6 (ivs T) :: [])) (fun _ ii _ => j + 1 - (intOf ii).toNat)
                  case atStart => exact ⟨0, Nat.zero_le _, rfl, rfl, sx⟩
                  case round =>
                    obtain ⟨t, ht, rfl, rfl, sz⟩ := hrel
                    by_cases htl : t < j + 1
                    · have rdt := OwnS.rd (St.pick 1 sz)
                      obtain ⟨g6, o6, rfl⟩ := rdt.addr (by omega)
                      have htT : t < T.length := by rw [HTL.out]; exact htl
                      have ct := rdt.at (ivs_get htT)
                      have hst := anyEq_snoc htT n
                      obtain ⟨m, hm⟩ : ∃ m, T[t] = m := ⟨_, rfl⟩
                      rw [hm] at ct hst
                      obtain ⟨bb, hbb⟩ : ∃ bb, anyEq (T.take t) n = bb := ⟨_, rfl⟩
                      rw [hbb] at hst ⊢
                      have HST := hid hst
                      clear hm hst hbb rdt
                      cases bb with
                      | true =>
                        go_wp2
                        go_roundw
                        case rel => exact ⟨t + 1, by omega, by go_num, by rw [HST.out]; rfl, sz⟩
                        case measure => simp [intOf]; omega
                      | false =>
                        by_cases hmn : m = n
                        · subst hmn
                          have hmm : (m == m) = true := by simp
                          go_wp2
                          go_roundw
                          case rel => exact ⟨t + 1, by omega, by go_num, by rw [HST.out]; simp, sz⟩
                          case measure => simp [intOf]; omega
                        · have hne : (m == n) = false := by simpa using hmn
                          have hne2 : (n == m) = false := by simpa using fun e : n = m => hmn e.symm
                          have HNE := hid hne
                          clear hmn
                          go_wp2
                          go_roundw
                          case rel => exact ⟨t + 1, by omega, by go_num, by rw [HST.out, HNE.out]; rfl, sz⟩
                          case measure => simp [intOf]; omega
                    · have hte : t = j + 1 := by omega
                      subst hte
                      have htk : T.take (j + 1) = T := List.take_of_length_le (by rw [HTL.out]; exact Nat.le_refl _)
                      rw [htk, HIN.out]
                      clear htk
                      go_wp2
                      go_roundw
                      case rel => exact ⟨i + 1, by omega, by go_num, sz⟩
                      case measure => simp [intOf]; omega
                · go_wp2_with (go_at_call 12; refine cycle_c sx ?_)
                  exact HK.out _ sx.below
  · by_cases h20 : nk ≤ 20
    · by_cases h0 : nk = 0
      · subst h0
        clear hg hkl hll
        go_enter Try.func5, Try.ntmps5
        go_wp2_with (first
          | (go_at_call 6; refine speaks_c s0 ?_; rintro w1 s1)
          | (go_at_call 6; refine speaks_c s1 ?_; rintro w2 s2))
        exact HK.out _ s2.below
      · have h60 : ¬ nl ≤ 60 := fun h => hg ⟨h20, by omega, h⟩
        have hk0 : ((nk : Int) == 0) = false := by simp; omega
        clear hg h0
        go_enter Try.func5, Try.ntmps5
        go_wp2_with (first
          | (go_at_call 6; refine speaks_c s0 ?_; rintro w1 s1)
          | (go_at_call 6; refine speaks_c s1 ?_; rintro w2 s2))
        exact HK.out _ s2.below
    · clear hg
      go_enter Try.func5, Try.ntmps5
      go_wp2_with (first
        | (go_at_call 6; refine speaks_c s0 ?_; rintro w1 s1)
        | (go_at_call 6; refine speaks_c s1 ?_; rintro w2 s2))
      exact HK.out _ s2.below

end Go.Proofs.Ytnibgchgcggfbad
