/- OverlayBeats: the walk. -/
import Derived.Test.YtbpdchaeakihkaaGreatBeatL
namespace Go.Proofs.YtbpdchaeakihkaaGreat
open Go.RowKit Go.Qd

theorem agg60 : AggT Tryz.prog 60 13 := ⟨⟨_, Tryz.underlying60, rfl⟩, by kernel_rfl⟩
theorem zero60 (w : World) : (zeroValue 60).run Tryz.prog w = .ok (.agg (LetV.cells ⟨0, kindM 0⟩).toArray) w := by kernel_rfl
theorem letC_at {L : List LetV} {k : Nat} (h : k < L.length) : (letC L).drop (k * 13) = (L[k]).cells ++ letC (L.drop (k + 1)) := by
  induction L generalizing k with
  | nil => cases h
  | cons x L ih =>
    cases k with
    | zero => rw [Nat.zero_mul]; rfl
    | succ k =>
      have h' : k < L.length := by simpa using h
      have e : letC (x :: L) = x.cells ++ letC L := rfl
      have hx : x.cells.length = 13 := rfl
      rw [e, show (k + 1) * 13 = x.cells.length + k * 13 from by rw [hx]; omega, ← List.drop_drop, List.drop_left, ih h']
      rfl

theorem zero_set {l : List Int} {j i : Nat} (h : j = i ∨ l.getD j 0 = 0) : (l.set i 0).getD j 0 = 0 := by
  rw [getD_set]
  split
  · rfl
  · rename_i g
    rcases h with h | h
    · subst h
      have : ¬ j < l.length := fun h => g ⟨rfl, h⟩
      rw [List.getD_eq_getElem?_getD, List.getElem?_eq_none (by omega)]; rfl
    · exact h
theorem cnt_snoc {k : Int} {L : List LetV} {i : Nat} (h : i < L.length) : cntL k (L.take (i + 1)) = cntL k (L.take i) + (if L[i].m.kind = k then 1 else 0) := by
  rw [List.take_succ_eq_append_getElem h, cnt_append]
  congr 1
  unfold cntL
  rw [List.countP_cons, List.countP_nil]
  by_cases g : L[i].m.kind = k
  · rw [if_pos g, if_pos (by simp [g])]
  · rw [if_neg g, if_neg (by simp [g])]

section
variable {W w : World} {post : Ending → World → Prop}
theorem execOp_load23 (ρ : Operand → Value) (dst : Option Tmp) (a : Operand) (ty : TypeId) (pos : String) (after : Array Edge) (guard : Option (Nat × Bool)) :
    execOp ρ { dst, op := .load 23 a, type := ty, pos, after, guard } = (do pure (.value (← loadG 23 (ρ a)))) := rfl
theorem execOp_load60 (ρ : Operand → Value) (dst : Option Tmp) (a : Operand) (ty : TypeId) (pos : String) (after : Array Edge) (guard : Option (Nat × Bool)) :
    execOp ρ { dst, op := .load 60 a, type := ty, pos, after, guard } = (do pure (.value (← loadG 60 (ρ a)))) := rfl
attribute [local go_sem ↓] execOp_load23 execOp_load60
theorem ldC {T : Nat} {c : List Int} {R : List HP} (hc : c.length = 20) (s : St W w (row T 0 (ivs c) :: R)) : (loadG 23 (.pointer (some ⟨T, 0, none⟩))).run Tryz.prog w = .ok (.agg (ivs c).toArray) w :=
  run_loadG agg23 (ivs_len20 hc) s.rowAll

set_option maxRecDepth 100000 in
set_option maxHeartbeats 16000000 in
theorem overlayBeats_c {c : List Int} {pa da : Option Addr} {pn pc dn dc : Nat} {ps ds : List Int} (hc : c.length = 20) (rp : RdS W 1 pa pn pc (ivs ps)) (rd : RdS W 1 da dn dc (ivs ds))
    (K : ∀ W2, Below W.heap.size W W2 → post (.returned (.bool true)) W2) : Calls Tryz.prog 3 #[.agg (ivs c).toArray, .slice pa pn pc, .slice da dn dc] W post := by
  have HK := hid K; clear K
  have HC := hid hc
  have HL10 : Hid (10 < c.length) := hid (by omega)
  obtain ⟨rb, hrb⟩ : ∃ rb, rightB c = rb := ⟨_, rfl⟩
  have HR := hid hrb
  by_cases hq : rb = true ∧ pn ≤ 20 ∧ dn ≤ 200
  · obtain ⟨rfl, hpn, hdn⟩ := hq
    have HB0 := hid (fun D => BI.new hc hrb D)
    have k1 : decide ((20 : Int) < pn) = false := decide_eq_false (by omega)
    have k2 : decide ((200 : Int) < dn) = false := decide_eq_false (by omega)
    have HPL : Hid (ps.length = pn) := hid (ivs_len rp)
    have HD8 : Hid (dn * 8 ≤ 140737488355328) := hid (by omega)
    have HN0 : Hid (0 ≤ (0 : Int) ∧ (0 : Int) < c.getD 0 0) := hid (by have := (cfg_views hc hrb).2.2; omega)
    have hbt : 1 ≤ c.getD 10 0 := by have := fine_lo (rightB_iff.1 hrb 10 (by decide)); simpa [leastF] using this
    have hbu : c.getD 10 0 ≤ 16 := by have := fine_hi (rightB_iff.1 hrb 10 (by decide)); simpa [mostF] using this
    have HP := hid rp; have HD := hid rd
    clear rp rd hrb hc
    have st := St.init W
    go_enter Tryz.func3, Tryz.ntmps3
    go_wp2_with (first
      | (replace st := hid st; refine wpl_boxA (vs := ivs c) rfl (.tmp 0) rfl rfl st.out ?_; rintro T w1 s1; clear st)
      | (go_at_call 10; refine speaks_c s1 ?_; rintro w2 s2; have l2 := ldC HC.out s2)
      | (go_at_call 11; refine right_c s2 HC.out ?_; rintro w3 s3; rw [HR.out]; have l3 := ldC HC.out s3)
      | (go_at_call 13; refine of_c s3 HC.out ?_; rintro w4 s4)
      | (go_at_call 14; refine new_c s4 (HD.out.st s4) HD8.out ?_; rintro d w5 s5)
      | (go_at_call 12; refine onew_c s5 HC.out HR.out HN0.out ?_; rintro b w6 s6))
    have hB0 := HB0.out ds
    have HPN := hid hpn
    clear HD8 HN0 hdn k1 k2 l2 l3 HB0 s1 s2 s3 s4 s5
    go_loopw [57] (fun ii wr => ∃ (i : Nat) (O : OV), i ≤ pn ∧ ii = .int .i64 i ∧ Hid (BI c 0 O) ∧ St W wr [OvA b d O, row T 0 (ivs c)]) (fun ii _ => pn - (intOf ii).toNat)
    case atStart => exact ⟨0, newO c 0 ds, Nat.zero_le _, rfl, hid hB0, s6⟩
    case round =>
      obtain ⟨i, O, hi, rfl, HB, sr⟩ := hrel
      by_cases hlt : i < pn
      · have rdp := HP.out.st sr
        obtain ⟨g3, o3, rfl⟩ := rdp.addr (by omega)
        have hiA : i < ps.length := by rw [HPL.out]; exact hlt
        have ci := rdp.at (ivs_get hiA)
        obtain ⟨q, hq⟩ : ∃ q, ps[i] = q := ⟨_, rfl⟩
        rw [hq] at ci
        have hi2 : (i : Int) < (pn : Int) := by omega
        have hlo : O.L.length ≤ 100 := by rw [HB.out.fl]; decide
        have hlc : O.C.length ≤ 100 := by rw [HB.out.fc]; decide
        clear hq rdp hiA
        obtain ⟨z, hz⟩ : ∃ z, onodeB O q = z := ⟨_, rfl⟩
        cases z with
        | false =>
          have HZ := hid hz
          clear hz
          go_wp2_with (go_at_call 15; refine join_no sr HB.out.ok HZ.out ?_)
          go_roundw
          case rel => exact ⟨i + 1, O, by omega, by go_num, HB, sr⟩
          case measure => simp [intOf]; omega
        | true =>
          have HZ := hid hz
          clear hz
          go_wp2_with (go_at_call 15; refine join_c sr HB.out.ok HZ.out hlo hlc ?_; rintro la ln lc ca cn cc w7 s7)
          go_roundw
          case rel => exact ⟨i + 1, freshO (raiseO O q), by omega, by go_num, hid (HB.out.join HZ.out), s7.sel [0, 3]⟩
          case measure => simp [intOf]; omega
      · have hie : i = pn := by omega
        subst hie
        clear HP HPL
        go_wp2_with fail
        go_loopw [65] (fun ii wr => ∃ (i : Nat) (O : OV), i ≤ 40 ∧ ii = .int .i64 i ∧ Hid (BI c i O) ∧ St W wr [OvA b d O, row T 0 (ivs c)]) (fun ii _ => 40 - (intOf ii).toNat)
        case atStart => exact ⟨0, O, Nat.zero_le _, rfl, HB, sr⟩
        case round =>
          clear HB sr O
          obtain ⟨i, O, hi, rfl, HB, sr⟩ := hrel
          by_cases hlt : i < 40
          · have hi2 : (i : Int) < 40 := by omega
            obtain ⟨v, t⟩ := OvA.open sr
            have g0 := row1c t
            have hna : O.V.a.length ≤ 11 := by have := HB.out.ok.v.la; have := HB.out.ok.v.am; omega
            obtain ⟨A, hA⟩ : ∃ A, O.V.a = A := ⟨_, rfl⟩
            rw [hA] at hna
            obtain ⟨n, hn⟩ : ∃ n, A.length = n := ⟨_, rfl⟩
            have HNN := hid hn
            have HA := hid hA
            rw [hn] at hna
            clear hA hn
            go_wp2_with (go_at_call 16; refine active_c (St.pick 6 t) (by rw [HA.out, HNN.out]; omega) ?_; rintro a5 c5 w5 s5; rw [HA.out, HNN.out]; rw [HA.out, HNN.out] at s5)
            have s6 := OvA.close (O := O) (v := v) (s5.perm [2, 2, 2, 2, 2, 2, 1, 1])
            have hself : O.V.self = 0 := HB.out.me
            go_loopw [74] (fun ii wr => ∃ (k : Nat) (P : OV), k ≤ n ∧ ii = .int .i64 k ∧ Hid (BI c i P) ∧ Hid (P.V = O.V) ∧ Hid (∀ q ∈ A.take k, P.heard.getD q.toNat 0 = 0) ∧ St W wr [OwnS 1 a5 n c5 (ivs A), OvA b d P, row T 0 (ivs c)]) (fun ii _ => n - (intOf ii).toNat)
            case atStart => exact ⟨0, O, Nat.zero_le _, rfl, HB, hid rfl, hid (by simp), s6.perm [1]⟩
            case round =>
              obtain ⟨k, P, hk, rfl, HBP, HPV, HZ, sq⟩ := hrel
              have HPA : Hid (P.V.a = A) := hid (by rw [HPV.out]; exact HA.out)
              by_cases hlk : k < n
              · have rda := OwnS.rd sq
                obtain ⟨g3, o3, rfl⟩ := rda.addr (by omega)
                have hkA : k < A.length := by rw [HNN.out]; exact hlk
                have ck := rda.at (ivs_get hkA)
                have hsn : A.take (k + 1) = A.take k ++ [A[k]] := List.take_succ_eq_append_getElem hkA
                have hme : A[k] ∈ A := List.getElem_mem hkA
                obtain ⟨q, hq⟩ : ∃ q, A[k] = q := ⟨_, rfl⟩
                rw [hq] at ck hsn hme
                have HS := hid hsn
                have HM : Hid (memB P.V.a q = true) := hid (memB_yes (by rw [HPA.out]; exact hme))
                have HNO : Hid (onodeB P q = true) := hid (BI_node HBP.out.cfg HBP.out.me (HBP.out.nd q (by rw [HPA.out]; exact hme)))
                have hk2 : (k : Int) < (n : Int) := by omega
                clear hq hsn hme rda hkA
                go_wp2_with (go_at_call 17; refine heard_c (St.pick 1 sq) HBP.out.ok HNO.out ?_; rintro w7 s7)
                go_roundw
                case rel => exact ⟨k + 1, heardO P q, by omega, by go_num, hid (HBP.out.heard HM.out), hid (by rw [heard_mem HM.out]; exact HPV.out), hid (by
                  intro x hx
                  rw [heard_mem HM.out]
                  rw [HS.out] at hx
                  show (P.heard.set q.toNat 0).getD x.toNat 0 = 0
                  rcases List.mem_append.1 hx with hx | hx
                  · exact zero_set (.inr (HZ.out x hx))
                  · rw [List.mem_singleton] at hx; subst hx; exact zero_set (.inl rfl)), St.pick 1 s7⟩
                case measure => simp [intOf]; omega
              · have hke : k = n := by omega
                subst hke
                have HZ2 : Hid (∀ q ∈ P.V.a, P.heard.getD q.toNat 0 = 0) := hid (by have := HZ.out; rw [List.take_of_length_le (by rw [HNN.out]; exact Nat.le_refl _)] at this; rw [HPA.out]; exact this)
                have hSOK : SOK P 1000000 0 := ⟨HBP.out.ok, fun j => ⟨(HBP.out.hh j).1, by have := (HBP.out.hh j).2; omega⟩, by rw [HBP.out.fc]; exact Nat.le_refl _, HBP.out.fl⟩
                have HSOK := hid hSOK
                have HTK : Hid (0 ≤ P.ticks ∧ P.ticks ≤ 1000000) := hid (by rw [HBP.out.tk]; omega)
                have HSI : Hid (0 ≤ P.since ∧ P.since ≤ 4) := hid ⟨HBP.out.si.1, HBP.out.si.2.1⟩
                clear hSOK HZ
                obtain ⟨v2, t2⟩ := OvA.open (St.pick 1 sq)
                have g2 := row1c t2
                go_wp2_with (first
                  | (go_at_call 16; refine active_c (St.pick 6 t2) (by rw [HPA.out, HNN.out]; omega) ?_; rintro a8 c8 w8 s8; rw [HPA.out, HNN.out]; rw [HPA.out, HNN.out] at s8; have s9 := OvA.close (O := P) (v := v2) (s8.perm [2, 2, 2, 2, 2, 2, 1, 1]))
                  | (go_at_call 18; refine tick_c s9 HSOK.out HTK.out HSI.out ?_; rintro xa xn xc la ln lc ca cn cc wA sA))
                have hlaw := beat_law HBP.out HZ2.out xa xn xc
                rw [HPA.out, HNN.out] at hlaw
                obtain ⟨T', hT'⟩ : ∃ T', tickR P xa xn xc = T' := ⟨_, rfl⟩
                rw [hT'] at hlaw sA
                clear hT'
                obtain ⟨hC0, hokL, h9, h7, hBI, hlen⟩ := hlaw
                have hln : T'.L.length = ln := lenL (O := T') (St.pick 1 sA)
                have hcn : cn = 0 := by have := (OwnS.rd (St.pick 2 sA)).len; rw [chC_size, hC0] at this; simp at this; omega
                subst hcn
                have u := sA.sel [1, 3, 0, 3]
                have u' : St W wA [OwnS 13 la ln lc (letC T'.L), OwnS 1 a8 k c8 (ivs A), OvA b d (freshO T'), row T 0 (ivs c)] := u
                have HOKL := hid hokL; have H9 := hid h9; have H7 := hid h7; have HBI := hid hBI; have HLN := hid hln
                rw [hln] at hlen
                clear hokL h9 h7 hBI u sA hC0 s9 s8 t2 g2 hln HZ2 HSOK HTK HSI sq HBP HPV HPA
                go_loopw [94, 17, 18] (fun ii x9 x7 wr => ∃ (r : Nat), r ≤ ln ∧ ii = .int .i64 r ∧ x9 = .int .i64 (cntL 9 (T'.L.take r)) ∧ x7 = .int .i64 (cntL 7 (T'.L.take r)) ∧ St W wr [OwnS 13 la ln lc (letC T'.L), OwnS 1 a8 k c8 (ivs A), OvA b d (freshO T'), row T 0 (ivs c)]) (fun ii _ _ _ => ln - (intOf ii).toNat)
                case atStart => exact ⟨0, Nat.zero_le _, rfl, rfl, rfl, u'⟩
                case round =>
                  obtain ⟨r, hr, rfl, rfl, rfl, sv⟩ := hrel
                  by_cases hlr : r < ln
                  · have rdl := OwnS.rd sv
                    obtain ⟨g3, o3, rfl⟩ := rdl.addr (by omega)
                    have hrL : r < T'.L.length := by rw [HLN.out]; exact hlr
                    have lx := run_loadG agg60 rfl (RdS.part rdl (r * 13) (letC_at hrL))
                    have e9 := cnt_snoc (k := 9) hrL
                    have e7 := cnt_snoc (k := 7) hrL
                    have hox := HOKL.out _ (List.getElem_mem hrL)
                    obtain ⟨x, hx⟩ : ∃ x, T'.L[r] = x := ⟨_, rfl⟩
                    rw [hx] at lx e9 e7 hox
                    have HOX := hid hox
                    have hb9 : cntL 9 (T'.L.take r) ≤ 100 := by have := List.countP_le_length (p := fun x : LetV => x.m.kind == 9) (l := T'.L.take r); unfold cntL; rw [List.length_take] at this; omega
                    have hb7 : cntL 7 (T'.L.take r) ≤ 100 := by have := List.countP_le_length (p := fun x : LetV => x.m.kind == 7) (l := T'.L.take r); unfold cntL; rw [List.length_take] at this; omega
                    have hr2 : (r : Int) < (ln : Int) := by omega
                    obtain ⟨n9, hn9⟩ : ∃ n9, cntL 9 (T'.L.take r) = n9 := ⟨_, rfl⟩
                    obtain ⟨n7, hn7⟩ : ∃ n7, cntL 7 (T'.L.take r) = n7 := ⟨_, rfl⟩
                    rw [hn9] at e9 hb9 ⊢
                    rw [hn7] at e7 hb7 ⊢
                    have E9 := hid e9; have E7 := hid e7
                    clear hx rdl hrL e9 e7 hox hn9 hn7
                    by_cases hk9 : x.m.kind = 9
                    · have HM : Hid (memB A x.to = true) := hid (memB_yes (HOX.out.1 hk9))
                      have HK9 := hid hk9
                      clear hk9
                      go_wp2_with (first
                        | (refine wpl_allocA rfl rfl zero60 sv ?_; rintro X w7 s7)
                        | (refine wpl_storeA (vs := x.cells) rfl (.tmp 20) (.tmp 97) (by rfl) agg60 (by rfl) (by rfl) rfl (let_one x) s7 (by simp [LetV.cells, MsgV.cells]) ?_; rintro w8 s8
                           have c0 := s8.rowCell (i := 0) (v := .int .i64 x.to) rfl; have c1 := s8.rowCell (i := 1) (v := .int .i64 x.m.kind) rfl; rw [HK9.out] at c1; rw [Nat.zero_add] at c0 c1)
                        | (go_at_call 19; refine holds_c (OwnS.rd (St.pick 2 s8)) ?_; rw [HM.out]))
                      go_roundw
                      case rel => exact ⟨r + 1, by omega, by go_num, by rw [E9.out, if_pos HK9.out]; go_num, by rw [E7.out, if_neg (by rw [HK9.out]; decide)]; go_num, s8.drop⟩
                      case measure => simp [intOf]; omega
                    · have HN9 := hid hk9
                      by_cases hk7 : x.m.kind = 7
                      · have HM : Hid (memB A x.to = true) := hid (memB_yes (HOX.out.2 hk7).1)
                        have HPE : Hid (x.m.peer = 0) := hid (HOX.out.2 hk7).2
                        have HK7 := hid hk7
                        clear hk9 hk7
                        go_wp2_with (first
                          | (refine wpl_allocA rfl rfl zero60 sv ?_; rintro X w7 s7)
                          | (refine wpl_storeA (vs := x.cells) rfl (.tmp 20) (.tmp 97) (by rfl) agg60 (by rfl) (by rfl) rfl (let_one x) s7 (by simp [LetV.cells, MsgV.cells]) ?_; rintro w8 s8
                             have c0 := s8.rowCell (i := 0) (v := .int .i64 x.to) rfl; have c1 := s8.rowCell (i := 1) (v := .int .i64 x.m.kind) rfl; rw [HK7.out] at c1; have c2 := s8.rowCell (i := 2) (v := .int .i64 x.m.peer) rfl; rw [HPE.out] at c2; rw [Nat.zero_add] at c0 c1 c2)
                          | (go_at_call 19; refine holds_c (OwnS.rd (St.pick 2 s8)) ?_; rw [HM.out]))
                        go_roundw
                        case rel => exact ⟨r + 1, by omega, by go_num, by rw [E9.out, if_neg HN9.out]; go_num, by rw [E7.out, if_pos HK7.out]; go_num, s8.drop⟩
                        case measure => simp [intOf]; omega
                      · have HN7 := hid hk7
                        obtain ⟨kd, hkd⟩ : ∃ kd, x.m.kind = kd := ⟨_, rfl⟩
                        have HKD := hid hkd
                        rw [hkd] at hk9 hk7
                        have q9 : (kd == 9) = false := by simpa using hk9
                        have q7 : (kd == 7) = false := by simpa using hk7
                        clear hkd hk9 hk7
                        go_wp2_with (first
                          | (refine wpl_allocA rfl rfl zero60 sv ?_; rintro X w7 s7)
                          | (refine wpl_storeA (vs := x.cells) rfl (.tmp 20) (.tmp 97) (by rfl) agg60 (by rfl) (by rfl) rfl (let_one x) s7 (by simp [LetV.cells, MsgV.cells]) ?_; rintro w8 s8
                             have c1 := s8.rowCell (i := 1) (v := .int .i64 x.m.kind) rfl; rw [HKD.out] at c1; rw [Nat.zero_add] at c1))
                        go_roundw
                        case rel => exact ⟨r + 1, by omega, by go_num, by rw [E9.out, if_neg HN9.out]; go_num, by rw [E7.out, if_neg HN7.out]; go_num, s8.drop⟩
                        case measure => simp [intOf]; omega
                  · have hre : r = ln := by omega
                    subst hre
                    have h9 := H9.out; have h7 := H7.out
                    rw [List.take_of_length_le (by rw [HLN.out]; exact Nat.le_refl _)]
                    have c10 := cfg_at (St.pick 3 sv) (i := 10) HL10.out
                    obtain ⟨bt, hbe⟩ : ∃ bt, c.getD 10 0 = bt := ⟨_, rfl⟩
                    rw [hbe] at c10 h9 h7 hbt hbu
                    obtain ⟨tk, htk⟩ : ∃ tk, (i : Int) + 1 = tk := ⟨_, rfl⟩
                    have htk0 : 0 ≤ tk ∧ tk ≤ 1000001 := by omega
                    rw [htk] at h9 h7
                    have hne : bt ≠ 0 := by omega
                    have htm : tk.tmod bt = tk % bt := Int.tmod_eq_emod_of_nonneg htk0.1
                    have hlo : 0 ≤ tk % bt := Int.emod_nonneg _ hne
                    have hup : tk % bt < bt := Int.emod_lt_of_pos _ (by omega)
                    have hwm : IntKind.i64.wrap (tk % bt) = tk % bt := IntWalk.i64_in _ (by omega)
                    have hnb : (bt == 0) = false := by simpa using hne
                    have hmk : ((min k 1 : Nat) : Int) = min (k : Int) 1 := by omega
                    by_cases hz : tk % bt = 0
                    · have hzb : (tk % bt == 0) = true := by simp [hz]
                      rw [if_pos hz] at h9 h7
                      rw [h9, h7, hmk]
                      clear hz h9 h7 hbe hmk
                      go_wp2_with (at_builtin; refine wpl_min rfl (.tmp 135) (.const (.int .i64 1)) rfl rfl rfl ?_)
                      go_roundw
                      case rel => exact ⟨i + 1, freshO T', by omega, by go_num, hid HBI.out, sv.sel [2, 2]⟩
                      case measure => simp [intOf]; omega
                    · have hzb : (tk % bt == 0) = false := by simp [hz]
                      rw [if_neg hz] at h9 h7
                      rw [h9, h7]
                      clear hz h9 h7 hbe hmk
                      go_wp2_with fail
                      go_roundw
                      case rel => exact ⟨i + 1, freshO T', by omega, by go_num, hid HBI.out, sv.sel [2, 2]⟩
                      case measure => simp [intOf]; omega
          · go_wp2_with fail
            exact HK.out _ sr.below
  · clear rp rd hc HL10
    cases rb with
    | false =>
      clear hq hrb
      have st := St.init W
      go_enter Tryz.func3, Tryz.ntmps3
      go_wp2_with (first
        | (replace st := hid st; refine wpl_boxA (vs := ivs c) rfl (.tmp 0) rfl rfl st.out ?_; rintro T w1 s1; clear st)
        | (go_at_call 10; first
            | (refine speaks_c s3 ?_; rintro w4 s4)
            | (refine speaks_c s1 ?_; rintro w2 s2; have l2 := ldC HC.out s2))
        | (go_at_call 11; refine right_c s2 HC.out ?_; rintro w3 s3; rw [HR.out]))
      exact HK.out _ s4.below
    | true =>
      by_cases hpn : pn ≤ 20
      · have hdn : ¬ dn ≤ 200 := fun h => hq ⟨rfl, hpn, h⟩
        have k1 : decide ((20 : Int) < pn) = false := decide_eq_false (by omega)
        have k2 : decide ((200 : Int) < dn) = true := decide_eq_true (by omega)
        clear hq hrb hdn hpn
        have st := St.init W
        go_enter Tryz.func3, Tryz.ntmps3
        go_wp2_with (first
          | (replace st := hid st; refine wpl_boxA (vs := ivs c) rfl (.tmp 0) rfl rfl st.out ?_; rintro T w1 s1; clear st)
          | (go_at_call 10; first
              | (refine speaks_c s3 ?_; rintro w4 s4)
              | (refine speaks_c s1 ?_; rintro w2 s2; have l2 := ldC HC.out s2))
          | (go_at_call 11; refine right_c s2 HC.out ?_; rintro w3 s3; rw [HR.out]))
        exact HK.out _ s4.below
      · have k1 : decide ((20 : Int) < pn) = true := decide_eq_true (by omega)
        clear hq hrb hpn
        have st := St.init W
        go_enter Tryz.func3, Tryz.ntmps3
        go_wp2_with (first
          | (replace st := hid st; refine wpl_boxA (vs := ivs c) rfl (.tmp 0) rfl rfl st.out ?_; rintro T w1 s1; clear st)
          | (go_at_call 10; first
              | (refine speaks_c s3 ?_; rintro w4 s4)
              | (refine speaks_c s1 ?_; rintro w2 s2; have l2 := ldC HC.out s2))
          | (go_at_call 11; refine right_c s2 HC.out ?_; rintro w3 s3; rw [HR.out]))
        exact HK.out _ s4.below

end

end Go.Proofs.YtbpdchaeakihkaaGreat
