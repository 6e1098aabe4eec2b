/- ViewsKeep: the law's own walk. -/
import Derived.Test.YtnibgchgcggfbacKeepL
namespace Go.Proofs.Ytnibgchgcggfbac
open Go.RowKit Go.Qd

/-- Where the loop stands. -/
structure KeepAt (W : World) (b d : Nat) (sf am pm : Int) (V : VV) (D : List Int) (aw : Option Addr) (nw cw : Nat) (Wl : List Int) (wr : World) : Prop where
  ok : VOK V
  eself : V.self = sf
  eam : V.am = am
  epm : V.pm = pm
  was : ∀ x ∈ Wl, inV V x
  len : Wl.length = nw
  st : St W wr (ViewsA b V :: DiceA d D :: OwnS 1 aw nw cw (ivs Wl) :: [])

set_option maxRecDepth 100000 in
set_option maxHeartbeats 16000000 in
theorem viewsKeep_c {W : World} {post : Ending → World → Prop} {ad al : Option Addr} {nd nl cd cl : Nat} {zd : List Int} {l : List ActV} {self am pm : Nat}
    (h0 : self ≤ 255) (h1 : am ≤ 255) (h2 : pm ≤ 255) (rd : RdS W 1 ad nd cd (ivs zd)) (rl : RdS W 3 al nl cl (actCells l))
    (K : ∀ w', Below W.heap.size W w' → post (.returned (.bool true)) w') : Calls Try.prog 4 #[.int .u8 self, .int .u8 am, .int .u8 pm, .slice ad nd cd, .slice al nl cl] W post := by
  have HK := hid K; clear K
  have hml := rl.big
  have hmd := rd.big
  have s0 := St.init W
  have hll := hid (actCells_len rl)
  by_cases hg : nl ≤ 60 ∧ nd ≤ 100
  · obtain ⟨hg1, hg2⟩ := hg
    have hnew : nodeB ((self : Int) % 12) = true ∧ (1 ≤ 1 + (am : Int) % 11 ∧ 1 + (am : Int) % 11 < 12) ∧ (1 ≤ 1 + (pm : Int) % 11 ∧ 1 + (pm : Int) % 11 < 12) := by
      rw [nodeB_iff]; omega
    have HN := hid hnew
    clear hnew
    have hb1 : (0 : Int) ≤ (self : Int) % 12 := by omega
    have hb2 : (self : Int) % 12 < 12 := by omega
    have hb3 : (0 : Int) ≤ (am : Int) % 11 := by omega
    have hb4 : (am : Int) % 11 < 11 := by omega
    have hb5 : (0 : Int) ≤ (pm : Int) % 11 := by omega
    have hb6 : (pm : Int) % 11 < 11 := by omega
    go_enter Try.func4, Try.ntmps4
    go_wp2_with (first
      | (go_at_call 6; refine speaks_c s0 ?_; rintro w1 s1)
      | (go_at_call 7; refine views_new_c s1 HN.out ?_; rintro b w2 s2)
      | (go_at_call 8; refine new_c s2 (rd.st s2) (by omega) ?_; rintro d w3 s3))
    go_loopw [16, 67] (fun wv ii wr => ∃ (k : Nat) (V : VV) (D : List Int) (aw : Option Addr) (nw cw : Nat) (Wl : List Int), k ≤ nl ∧ ii = .int .i64 k ∧ wv = .slice aw nw cw ∧ Hid (KeepAt W b d ((self : Int) % 12) (1 + (am : Int) % 11) (1 + (pm : Int) % 11) V D aw nw cw Wl wr)) (fun _ ii _ => nl - (intOf ii).toNat)
    case atStart => exact ⟨0, _, zd, none, 0, 0, [], Nat.zero_le _, rfl, rfl, hid ⟨VOK.start HN.out, rfl, rfl, rfl, fun _ h => (by cases h), rfl, (OwnS.none0 s3).perm [2, 1]⟩⟩
    case round =>
      obtain ⟨k, V, D, aw, nw, cw, Wl, hk, rfl, rfl, hT⟩ := hrel
      have sr := hT.out.st
      by_cases hlt : k < nl
      · obtain ⟨g, o, rfl⟩ := rl.addr (by omega)
        have hkl : k < l.length := by rw [hll.out]; exact hlt
        obtain ⟨c0, c1, c2⟩ := act_at (rl.st sr) hkl
        obtain ⟨x, hx⟩ : ∃ x, l[k] = x := ⟨_, rfl⟩
        rw [hx] at c0 c1 c2
        clear hx
        obtain ⟨xk, q, ask⟩ := x
        dsimp only at c0 c1 c2
        have s4 : St W _ (ViewsA b V :: DiceA d D :: row wr.heap.size 0 [.int .i64 xk, .int .i64 q, .int .i64 ask] :: OwnS 1 aw nw cw (ivs Wl) :: []) := (sr.alloc #[.int .i64 xk, .int .i64 q, .int .i64 ask] 32).perm [1, 1]
        have HV := hid hT.out.ok
        have HSF := hid (show nodeB V.self = true by rw [hT.out.eself]; exact HN.out.1)
        obtain ⟨kd, hkd⟩ : ∃ kd : Nat, (xk = 0 ∧ kd = 0) ∨ (xk = 1 ∧ kd = 1) ∨ (xk ≠ 0 ∧ xk ≠ 1 ∧ kd = 2) := by
          by_cases h : xk = 0
          · exact ⟨0, .inl ⟨h, rfl⟩⟩
          · by_cases h' : xk = 1
            · exact ⟨1, .inr (.inl ⟨h', rfl⟩)⟩
            · exact ⟨2, .inr (.inr ⟨h, h', rfl⟩)⟩
        rcases hkd with ⟨rfl, _⟩ | ⟨rfl, _⟩ | ⟨hn0, hn1, _⟩
        all_goals
          go_wp2_with (first
            | (go_at_call 12; refine raise_any s4 HV.out HSF.out ?_; rintro w5 V1 D1 g1 ok1 s5 hV1 hKV1; have HV1 := hid hV1; have HKV := hid hKV1; clear hV1 hKV1; have hla : V1.a.length ≤ 100 := (by have := HV1.out.la; have := HV1.out.am; omega); have hlp : V1.p.length ≤ 100 := (by have := HV1.out.lp; have := HV1.out.pm; omega); have HLA := hid hla; have HLP := hid hlp; clear hla hlp)
            | (go_at_call 14; refine lower_any s4 HV.out HSF.out ?_; rintro w5 V1 D1 ok1 s5 hV1 hKV1; have HV1 := hid hV1; have HKV := hid hKV1; clear hV1 hKV1; have hla : V1.a.length ≤ 100 := (by have := HV1.out.la; have := HV1.out.am; omega); have hlp : V1.p.length ≤ 100 := (by have := HV1.out.lp; have := HV1.out.pm; omega); have HLA := hid hla; have HLP := hid hlp; clear hla hlp)
            | (go_at_call 15; refine learn_any s4 HV.out HSF.out ?_; rintro w5 V1 D1 ok1 s5 hV1 hKV1; have HV1 := hid hV1; have HKV := hid hKV1; clear hV1 hKV1; have hla : V1.a.length ≤ 100 := (by have := HV1.out.la; have := HV1.out.am; omega); have hlp : V1.p.length ≤ 100 := (by have := HV1.out.lp; have := HV1.out.pm; omega); have HLA := hid hla; have HLP := hid hlp; clear hla hlp)
            | (go_at_call 16; refine known_c s5 HLA.out HLP.out ?_; rintro a6 c6 w6 s6'; have s6 : St W w6 (ViewsA b V1 :: OwnS 1 a6 (V1.a.length + V1.p.length) c6 (ivs (knownL V1)) :: DiceA d D1 :: _ :: OwnS 1 aw nw cw (ivs Wl) :: []) := s6'.perm [1]; obtain ⟨na, hna⟩ : ∃ na, V1.a.length = na := ⟨_, rfl⟩; obtain ⟨np, hnp⟩ : ∃ np, V1.p.length = np := ⟨_, rfl⟩; have HNA := hid hna; have HNP := hid hnp; rw [hna, hnp] at s6 ⊢; have hna1 : (na : Int) ≤ 1 + (am : Int) % 11 := (by have h1 := HV1.out.la; rw [hna, HKV.out.2.1, hT.out.eam] at h1; exact h1); have hnp1 : (np : Int) ≤ 1 + (pm : Int) % 11 := (by have h1 := HV1.out.lp; rw [hnp, HKV.out.2.2.1, hT.out.epm] at h1; exact h1); clear hna hnp)
            | (go_at_call 11; refine active_c s6 (Nat.le_trans HLA.out (by omega)) ?_; rintro a7 c7 w7 s7'; have s7 : St W w7 (ViewsA b V1 :: OwnS 1 a6 (na + np) c6 (ivs (knownL V1)) :: DiceA d D1 :: _ :: OwnS 1 aw nw cw (ivs Wl) :: []) := s7'.drop; rw [HNA.out])
            | (go_at_call 17; refine passive_c s7 (Nat.le_trans HLP.out (by omega)) ?_; rintro a8 c8 w8 s8'; have s8 : St W w8 (ViewsA b V1 :: OwnS 1 a6 (na + np) c6 (ivs (knownL V1)) :: DiceA d D1 :: _ :: OwnS 1 aw nw cw (ivs Wl) :: []) := s8'.drop; rw [HNP.out])
            | (go_at_call 11; refine active_c s8 (Nat.le_trans HLA.out (by omega)) ?_; rintro a9 c9 w9 s9'; have s9 : St W w9 (ViewsA b V1 :: OwnS 1 a6 (na + np) c6 (ivs (knownL V1)) :: DiceA d D1 :: _ :: OwnS 1 aw nw cw (ivs Wl) :: []) := s9'.drop; rw [HNA.out])
            | (go_at_call 17; refine passive_c s9 (Nat.le_trans HLP.out (by omega)) ?_; rintro aA cA wA sA'; have sA : St W wA (ViewsA b V1 :: OwnS 1 a6 (na + np) c6 (ivs (knownL V1)) :: DiceA d D1 :: _ :: OwnS 1 aw nw cw (ivs Wl) :: []) := sA'.drop; rw [HNP.out]))
        all_goals
          have hkn : (knownL V1).length = na + np := by rw [knownL_len, HNA.out, HNP.out]
          have HKN := hid hkn
          have hsf : V1.self = (self : Int) % 12 := by rw [HKV.out.1, hT.out.eself]
          have HSF1 := hid hsf
          have hmm := fun h11 : 1 + (pm : Int) % 11 = 11 => fun (x : Int) (hx : x ∈ Wl) => mem_knownL.2 (HKV.out.2.2.2 (by rw [hT.out.epm]; exact h11) x (hT.out.was x hx))
          have HMM := hid hmm
          have HWL := hid hT.out.len
          have HAM := hid (show V1.am = 1 + (am : Int) % 11 by rw [HKV.out.2.1, hT.out.eam])
          have HPM := hid (show V1.pm = 1 + (pm : Int) % 11 by rw [HKV.out.2.2.1, hT.out.epm])
          have sB : St W wA (ViewsA b V1 :: OwnS 1 a6 (na + np) c6 (ivs (knownL V1)) :: DiceA d D1 :: OwnS 1 aw nw cw (ivs Wl) :: []) := sA.sel [0, 0, 0, 1]
          have hnp22 : na + np ≤ 22 := by omega
          obtain ⟨Kl, hKl⟩ : ∃ Kl, knownL V1 = Kl := ⟨_, rfl⟩
          have HKL := hid hKl
          rw [hKl] at sB
          have HKN2 := hid (show Kl.length = na + np by rw [← hKl]; exact hkn)
          have hwbig := (OwnS.rd (St.pick 3 sB)).big
          clear hkn hsf hmm hKl hT sr s4 s5 s6' s6 s7' s7 s8' s8 s9' s9 sA' sA c0 c1 c2
          go_wp2_with fail
          go_loopw [120] (fun ii wx => ∃ j : Nat, j ≤ na + np ∧ ii = .int .i64 j ∧ St W wx (ViewsA b V1 :: OwnS 1 a6 (na + np) c6 (ivs Kl) :: DiceA d D1 :: OwnS 1 aw nw cw (ivs Wl) :: [])) (fun ii _ => na + np - (intOf ii).toNat)
          case atStart => exact ⟨0, Nat.zero_le _, rfl, sB⟩
          case round =>
            obtain ⟨j, hj, rfl, sx⟩ := hrel
            by_cases hjl : j < na + np
            · have rdk := OwnS.rd (St.pick 1 sx)
              obtain ⟨g6, o6, rfl⟩ := rdk.addr (by omega)
              have hjK : j < Kl.length := by rw [HKN2.out]; exact hjl
              have cj := rdk.at (ivs_get hjK)
              obtain ⟨t1, t2, t3⟩ := knownL_told HV1.out (x := Kl[j]) (by rw [HKL.out]; exact List.getElem_mem hjK)
              have hprev : ∀ i, j = i + 1 → ∃ m, wr.cell? ⟨g6, o6 + i, none⟩ = some (iv m) ∧ m < Kl[j] := fun i hi => by
                have hiK : i < Kl.length := by omega
                refine ⟨Kl[i], rdk.at (ivs_get hiK), ?_⟩
                have hs := knownL_sorted HV1.out
                rw [HKL.out] at hs
                exact List.pairwise_iff_getElem.1 hs i j hiK hjK (by omega)
              obtain ⟨n, hn⟩ : ∃ n, Kl[j] = n := ⟨_, rfl⟩
              rw [hn] at cj t1 t2 t3 hprev
              clear hn
              rw [HSF1.out] at t2
              have hns : (n == (self : Int) % 12) = false := by simpa using t2
              have T1 := hid t1
              clear t1 t2 rdk
              rcases t3 with ⟨t4, t5⟩ | ⟨t4, t5⟩
              all_goals
                have T4 := hid t4
                have T5 := hid t5
                clear t4 t5
                cases j with
                | zero =>
                  clear hprev
                  rw [Nat.add_zero] at cj
                  go_wp2_with (first
                    | (go_at_call 18; refine refNode_c ?_; rw [T1.out])
                    | (go_at_call 9; refine isActive_c sx ?_; rw [T4.out])
                    | (go_at_call 13; refine isPassive_c sx ?_; rw [T5.out]))
                  go_roundw
                  case rel => exact ⟨0 + 1, by omega, by go_num, sx⟩
                  case measure => simp [intOf]; omega
                | succ i =>
                  obtain ⟨m, cm, hmn⟩ := hprev i rfl
                  clear hprev
                  have hge : ¬ n ≤ m := by omega
                  go_wp2_with (first
                    | (go_at_call 18; refine refNode_c ?_; rw [T1.out])
                    | (go_at_call 9; refine isActive_c sx ?_; rw [T4.out])
                    | (go_at_call 13; refine isPassive_c sx ?_; rw [T5.out]))
                  go_roundw
                  case rel => exact ⟨i + 1 + 1, by omega, by go_num, sx⟩
                  case measure => simp [intOf]; omega
            · have hje : j = na + np := by omega
              subst hje
              go_wp2_with fail
              go_loopw [160] (fun ii wx => ∃ j : Nat, j ≤ nw ∧ ii = .int .i64 j ∧ St W wx (ViewsA b V1 :: OwnS 1 a6 (na + np) c6 (ivs Kl) :: DiceA d D1 :: OwnS 1 aw nw cw (ivs Wl) :: [])) (fun ii _ => nw - (intOf ii).toNat)
              case atStart => exact ⟨0, Nat.zero_le _, rfl, sx⟩
              case round =>
                obtain ⟨j, hj2, rfl, sy⟩ := hrel
                by_cases hjw : j < nw
                · have rdw := OwnS.rd (St.pick 3 sy)
                  obtain ⟨g7, o7, rfl⟩ := rdw.addr (by omega)
                  have hjW : j < Wl.length := by rw [HWL.out]; exact hjw
                  have cj := rdw.at (ivs_get hjW)
                  have hin := fun h11 => anyEq_all (HMM.out h11 Wl[j] (List.getElem_mem hjW))
                  rw [HKL.out] at hin
                  obtain ⟨n, hn⟩ : ∃ n, Wl[j] = n := ⟨_, rfl⟩
                  rw [hn] at cj hin
                  have HIN := hid hin
                  clear hn rdw hin
                  go_wp2_with fail
                  go_loopw [24, 166] (fun uv ii wx => ∃ t : Nat, t ≤ na + np ∧ ii = .int .i64 t ∧ uv = .bool (anyEq (Kl.take t) n) ∧ St W wx (ViewsA b V1 :: OwnS 1 a6 (na + np) c6 (ivs Kl) :: DiceA d D1 :: OwnS 1 (some ⟨g7, o7, none⟩) nw cw (ivs Wl) :: [])) (fun _ ii _ => na + np - (intOf ii).toNat)
                  case atStart => exact ⟨0, Nat.zero_le _, rfl, rfl, sy⟩
                  case round =>
                    obtain ⟨t, ht, rfl, rfl, sz⟩ := hrel
                    by_cases htl : t < na + np
                    · have rdk := OwnS.rd (St.pick 1 sz)
                      obtain ⟨g6, o6, rfl⟩ := rdk.addr (by omega)
                      have htK : t < Kl.length := by rw [HKN2.out]; exact htl
                      have ct := rdk.at (ivs_get htK)
                      have hst := anyEq_snoc htK n
                      obtain ⟨m, hm⟩ : ∃ m, Kl[t] = m := ⟨_, rfl⟩
                      rw [hm] at ct hst
                      obtain ⟨bb, hbb⟩ : ∃ bb, anyEq (Kl.take t) n = bb := ⟨_, rfl⟩
                      rw [hbb] at hst ⊢
                      have HST := hid hst
                      clear hm hst hbb rdk
                      cases bb with
                      | true =>
                        go_wp2
                        go_roundw
                        case rel => exact ⟨t + 1, by omega, by go_num, by rw [HST.out]; rfl, sz⟩
                        case measure => simp [intOf]; omega
                      | false =>
                        by_cases hmn : m = n
                        · subst hmn
                          go_wp2
                          go_roundw
                          case rel => exact ⟨t + 1, by omega, by go_num, by rw [HST.out]; simp, sz⟩
                          case measure => simp [intOf]; omega
                        · have hne : (m == n) = false := by simpa using hmn
                          have HNE := hid hne
                          clear hmn
                          go_wp2
                          go_roundw
                          case rel => exact ⟨t + 1, by omega, by go_num, by rw [HST.out, HNE.out]; rfl, sz⟩
                          case measure => simp [intOf]; omega
                    · have hte : t = na + np := by omega
                      subst hte
                      have htk : Kl.take (na + np) = Kl := List.take_of_length_le (by rw [HKN2.out]; exact Nat.le_refl _)
                      rw [htk]
                      clear htk
                      by_cases h11 : 1 + (pm : Int) % 11 = 11
                      · have hyes := HIN.out h11
                        rw [hyes]
                        clear hyes
                        go_wp2
                        go_roundw
                        case rel => exact ⟨j + 1, by omega, by go_num, sz⟩
                        case measure => simp [intOf]; omega
                      · have hne : (1 + (pm : Int) % 11 == 11) = false := by simpa using h11
                        clear h11
                        obtain ⟨bb, hbb⟩ : ∃ bb, anyEq Kl n = bb := ⟨_, rfl⟩
                        rw [hbb]
                        clear hbb
                        go_wp2
                        go_roundw
                        case rel => exact ⟨j + 1, by omega, by go_num, sz⟩
                        case measure => simp [intOf]; omega
                · go_wp2
                  go_roundw
                  case rel => exact ⟨k + 1, V1, D1, a6, na + np, c6, Kl, by omega, by go_num, rfl, hid ⟨HV1.out, HSF1.out, HAM.out, HPM.out, fun x hx => mem_knownL.1 (by rw [HKL.out]; exact hx), HKN2.out, sy.sel [0, 1, 0]⟩⟩
                  case measure => simp [intOf]; omega
      · go_wp2
        exact HK.out _ sr.below
  · clear hll
    by_cases hg1 : nl ≤ 60
    · have hg2 : ¬ nd ≤ 100 := fun h => hg ⟨hg1, h⟩
      clear hg
      go_enter Try.func4, Try.ntmps4
      go_wp2_with (first
        | (go_at_call 6; refine speaks_c s0 ?_; rintro w1 s1)
        | (go_at_call 6; refine speaks_c s1 ?_; rintro w2 s2))
      exact HK.out _ s2.below
    · clear hg
      go_enter Try.func4, Try.ntmps4
      go_wp2_with (first
        | (go_at_call 6; refine speaks_c s0 ?_; rintro w1 s1)
        | (go_at_call 6; refine speaks_c s1 ?_; rintro w2 s2))
      exact HK.out _ s2.below

end Go.Proofs.Ytnibgchgcggfbac
