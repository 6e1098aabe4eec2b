/- The newest: the law's walk. -/
import Derived.Test.YtggbeedghblakaaGreatDoorSpkR
import Derived.Test.YtggbeedghblakaaGreatDoorRngB
import Derived.Test.YtggbeedghblakaaGreatDoorVals
import Derived.Test.YtggbeedghblakaaGreatDoorNewestL
import Derived.Deep.RegionLaw
import Derived.Deep.DeepCutAuto
namespace Go.Proofs.YtggbeedghblakaaGreatDoor
open Go.RowKit Go.Qd RepV

theorem renC_ld {w : World} {b o n c i : Nat} {l : List EnV} (rd : RdS w 9 (some ⟨b, o, none⟩) n c (enC l)) (hi : i < l.length) :
    (loadG 35 (.pointer (some ⟨b, o + i * 9, none⟩))).run Tryz.prog w = .ok (.agg l[i].cells.toArray) w := run_loadG agg_ren rfl (fun _ _ hu => rd.at2 (enC_get hi hu))

theorem elemR : ElemT Tryz.prog 22 35 9 88 := ElemT.mk' Tryz.underlying22 (by kernel_rfl : (Tryz.prog.info? 35).map (fun i => (i.zero, i.size, i.bytes)) = some (some (.agg en0.cells.toArray), 9, 88)) rfl (by decide) (by simp [Value.cells, Value.oneCell', EnV.cells, en0])
/-- The place of the i-th of the second replica. -/
def kN (n t i : Nat) : Nat := (n - 1 - i + t) % n
theorem kN_lt {n t i : Nat} (h : i < n) : kN n t i < n := Nat.mod_lt _ (by omega)
theorem kN_all {n t j : Nat} (h : j < n) : ∃ i, i < n ∧ kN n t i = j := by
  refine ⟨(n - 1 + t - j) % n, Nat.mod_lt _ (by omega), ?_⟩
  have h1 := Nat.div_add_mod (n - 1 + t - j) n
  have h2 : (n - 1 + t - j) % n < n := Nat.mod_lt _ (by omega)
  obtain ⟨q, hq⟩ : ∃ q, n * ((n - 1 + t - j) / n) = q := ⟨_, rfl⟩
  obtain ⟨i, hi⟩ : ∃ i, (n - 1 + t - j) % n = i := ⟨_, rfl⟩
  rw [hi] at h1 h2 ⊢
  have e : n - 1 - i + t = n * ((n - 1 + t - j) / n) + j := by rw [hq] at h1 ⊢; omega
  unfold kN
  rw [e, Nat.mul_add_mod, Nat.mod_eq_of_lt h]
def nthE (l : List EnV) (i : Nat) : EnV := l.getD i EnV.zero
/-- What came to the second replica, when i entries came. -/
def mN (l : List EnV) (t i : Nat) : List EnV := (List.range i).map fun j => nthE l (kN l.length t j)
theorem mN_succ (l : List EnV) (t i : Nat) : mN l t (i + 1) = mN l t i ++ [nthE l (kN l.length t i)] := by unfold mN; rw [List.range_succ, List.map_append]; rfl
theorem nthE_get {l : List EnV} {i : Nat} (h : i < l.length) : nthE l i = l[i] := by unfold nthE; simp [h]
theorem mN_mem (l : List EnV) (t : Nat) (x : EnV) : x ∈ l ↔ x ∈ mN l t l.length := by
  unfold mN
  constructor
  · intro h
    obtain ⟨j, hj, rfl⟩ := List.mem_iff_getElem.1 h
    obtain ⟨i, hi, he⟩ := kN_all (t := t) hj
    exact List.mem_map.2 ⟨i, List.mem_range.2 hi, by rw [he, nthE_get hj]⟩
  · intro h
    obtain ⟨i, hi, rfl⟩ := List.mem_map.1 h
    have hi' := List.mem_range.1 hi
    have hk := kN_lt (t := t) hi'
    rw [nthE_get hk]
    exact List.getElem_mem hk
theorem mN_len (l : List EnV) (t i : Nat) : (mN l t i).length = i := by simp [mN]

def oN : OptV := ⟨12, 64, 2, 0, 0⟩
noncomputable def amB (l : List EnV) (s : EnV) : Bool := l.any fun y => decide (checkE y = 0) && alikeB y s
theorem fresh_ok (s : Int) (h : 0 ≤ s ∧ s < 12) : RepOK (RepV.fresh 12 64 2 0 0 s DskV.new) := RepOK.fresh (by decide) (by decide) h (by decide) DskOK.new
theorem alikeE_B {a b : EnV} (h : alikeE a b) : alikeB a b = true := by
  unfold alikeB
  rw [eqEn_true]
  obtain ⟨a1, a2, a3, a4, a5, a6, a7, a8, a9⟩ := a
  obtain ⟨b1, b2, b3, b4, b5, b6, b7, b8, b9⟩ := b
  unfold alikeE at h
  simp only at h
  obtain ⟨rfl, rfl, rfl, rfl, rfl, rfl, rfl, rfl⟩ := h
  rfl

theorem stRen (ρ : Operand → Value) (dst : Option Tmp) (a x : Operand) (ty : TypeId) (pos : String) (after : Array Edge) (guard : Option (Nat × Bool)) :
    execOp ρ { dst, op := .store 35 a x, type := ty, pos, after, guard } = (do storeG 35 (ρ a) (ρ x); pure .skip) := rfl

section
attribute [local go_sem ↓] execOp_ldAny execOp_neS stRen
attribute [local go_sem] run_neS
variable {W : World} {post : Ending → World → Prop}

set_option maxRecDepth 100000 in
set_option maxHeartbeats 16000000 in
theorem newest_c {a : Option Addr} {n c : Nat} {l : List EnV} {t : Nat} (hf : FirstW W) (rd : RdS W 9 a n c (enC l)) (ht : t ≤ 255)
    (K : ∀ w', Below W.heap.size W w' → post (.returned (.bool true)) w') :
    Calls Tryz.prog 3 #[.slice a n c, .int .u8 t] W post := by
  have HK := hid K; clear K
  have HF := hid hf; have HRD := hid rd
  have HN : Hid (l.length = n) := hid (enC_ln rd)
  have hbig := rd.big
  have HBIG := hid hbig
  by_cases hlen : 40 < n
  · have d40 : decide (40 < (n : Int)) = true := decide_eq_true (by omega)
    clear hf rd
    go_enter Tryz.func3, Tryz.ntmps3
    go_wp2_with (first
      | (go_at_call 12; have gg := s1; refine speaks_c HF.out s1 ?_; rintro w2 s2)
      | (go_at_call 12; refine speaks_c HF.out (St.init W) ?_; rintro w1 s1))
    exact HK.out _ s2.below
  · have d40 : decide (40 < (n : Int)) = false := decide_eq_false (by omega)
    have hn40 : n ≤ 40 := by omega
    clear hf rd hlen
    go_enter Tryz.func3, Tryz.ntmps3
    go_wp2_with (first
      | (go_at_call 12; refine speaks_c HF.out (St.init W) ?_; rintro w1 s1)
      | (refine wpl_build (t := 25) rfl rfl (v := .agg oN.cells.toArray) (by kernel_rfl) ?_)
      | (refine wpl_allocA (vs := [.int .i64 0, .int .i64 0, .int .i64 0, .int .i64 0, .int .i64 0]) rfl rfl (fun _ => by kernel_rfl) s1 ?_; rintro O w2 s2)
      | (refine wpl_storeA (vs := oN.cells) rfl (.tmp 5) (.tmp 41) (by rfl) agg_opt (by rfl) (by rfl) rfl (opt_one _) s2 rfl ?_; rintro w3 s3))
    try simp only [Act.put, List.setIfInBounds_toArray, List.set_cons_succ, List.set_cons_zero]
    go_cut [6, 7] (fun p e wx => ∃ A : RAd, p = .pointer (some ⟨A.p, 0, none⟩) ∧ e = .int .i64 0 ∧ St W wx (RepA A (RepV.fresh 12 64 2 0 0 1 DskV.new) :: row O 0 oN.cells :: []))
    case first =>
      have u := s3.drew
      have gA := run_loadG agg_opt (vs := oN.cells) rfl u.rowAll
      go_region_law (first
        | (go_simp; go_at_call 14; refine dnew_c u ?_; rintro d w5 s5; have gB := run_loadG agg_opt (vs := oN.cells) rfl (St.pick 1 s5).rowAll)
        | (go_simp; go_at_call 13; refine open_g (o := oN) (D' := DskV.new) (es := []) (by kernel_rfl) (by decide) DskOK.new (jopens0 DskOK.new rfl rfl) (fun _ h => by cases h) s5 ?_ (fun _ h => by cases h); rintro q A w6 hq - s6; have hq2 := Option.some.inj hq; subst hq2; clear hq))
      all_goals
        go_wp2_with fail
        go_meet
        case rel => exact ⟨_, rfl, rfl, s6⟩
    case rest =>
    obtain ⟨A, rfl, rfl, s7⟩ := hcut
    go_wp2_with fail
    go_cut [8, 9] (fun p e wx => ∃ B : RAd, p = .pointer (some ⟨B.p, 0, none⟩) ∧ e = .int .i64 0 ∧ St W wx (RepA B (RepV.fresh 12 64 2 0 0 2 DskV.new) :: RepA A (RepV.fresh 12 64 2 0 0 1 DskV.new) :: row O 0 oN.cells :: []))
    case first =>
      have u := s7.drew
      have gA := run_loadG agg_opt (vs := oN.cells) rfl (St.pick 1 u).rowAll
      go_region_law (first
        | (go_simp; go_at_call 14; refine dnew_c u ?_; rintro d w5 s5; have gB := run_loadG agg_opt (vs := oN.cells) rfl (St.pick 2 s5).rowAll)
        | (go_simp; go_at_call 13; refine open_g (o := oN) (D' := DskV.new) (es := []) (by kernel_rfl) (by decide) DskOK.new (jopens0 DskOK.new rfl rfl) (fun _ h => by cases h) s5 ?_ (fun _ h => by cases h); rintro q B w6 hq - s6; have hq2 := Option.some.inj hq; subst hq2; clear hq))
      all_goals
        go_wp2_with fail
        go_meet
        case rel => exact ⟨_, rfl, rfl, s6⟩
    case rest =>
    obtain ⟨B, rfl, rfl, s8'⟩ := hcut
    have s8 : St W _ (RepA A (RepV.fresh 12 64 2 0 0 1 DskV.new) :: RepA B (RepV.fresh 12 64 2 0 0 2 DskV.new) :: []) := (s8'.perm [1]).takeN 2
    clear s7 s8' s3 s2 s1
    have HA0 := hid (fresh_ok 1 (by decide)); have HB0 := hid (fresh_ok 2 (by decide))
    have HNA := hid (NInv.start 1); have HNB := hid (NInv.start 2)
    obtain ⟨q1, hq1⟩ : ∃ q, RepV.fresh 12 64 2 0 0 1 DskV.new = q := ⟨_, rfl⟩
    obtain ⟨q2, hq2⟩ : ∃ q, RepV.fresh 12 64 2 0 0 2 DskV.new = q := ⟨_, rfl⟩
    rw [hq1] at s8 HA0 HNA
    rw [hq2] at s8 HB0 HNB
    clear hq1 hq2
    go_wp2_with fail
    -- are all texts short?
    go_loopw [70] (fun ii wr => ∃ i : Nat, i ≤ n ∧ ii = .int .i64 i ∧ St W wr (RepA A q1 :: RepA B q2 :: [])) (fun ii _ => n - (intOf ii).toNat)
    case atStart => exact ⟨0, Nat.zero_le _, rfl, s8⟩
    case round =>
      obtain ⟨i, hi, rfl, sr⟩ := hrel
      by_cases hlt : i < n
      · have hi2 : (i : Int) < (n : Int) := by omega
        have hiA : i < l.length := by rw [HN.out]; exact hlt
        have rdr := HRD.out.st sr
        obtain ⟨g3, o3, rfl⟩ := rdr.addr (by omega)
        have ci := renC_ld rdr hiA
        obtain ⟨x, hx⟩ : ∃ x, l[i] = x := ⟨_, rfl⟩
        obtain ⟨b, hb⟩ : ∃ b, shortB x = b := ⟨_, rfl⟩
        have HB := hid hb
        rw [hx] at ci
        clear hx hb rdr hiA
        go_wp2_with (first
          | (refine wpl_allocA rfl rfl zero_enTo sr ?_; rintro T w2 s2)
          | (refine wpl_storeA (vs := x.cells) rfl (.tmp 11) (.tmp 73) (by rfl) agg_ren (by rfl) (by rfl) rfl (en_one _) s2 rfl ?_; rintro w3 s3; have lT := run_loadG agg_ren (vs := x.cells) rfl s3.rowAll)
          | (go_at_call 15; refine short_c s3 ?_; rintro w4 s4; rw [HB.out]))
        · exact HK.out _ s4.below
        · go_roundw
          case rel => exact ⟨i + 1, by omega, by go_num, s4.drop⟩
          case measure => simp [intOf]; omega
      · have hie : i = n := by omega
        subst hie
        go_wp2_with fail
        have HT40 := hid hn40
        -- both replicas take them in
        go_loopw [80] (fun ii wr => ∃ (j : Nat) (r q : RepV), j ≤ i ∧ ii = .int .i64 j ∧ Hid (NInv r (l.take j)) ∧ Hid (NInv q (mN l t j)) ∧ Hid (RepOK r) ∧ Hid (RepOK q) ∧ St W wr (RepA A r :: RepA B q :: [])) (fun ii _ => i - (intOf ii).toNat)
        case atStart => exact ⟨0, q1, q2, Nat.zero_le _, rfl, by rw [List.take_zero]; exact HNA, HNB, HA0, HB0, sr⟩
        case round =>
          obtain ⟨j, r, q, hj, rfl, HIA, HIB, HRA, HRB, sw⟩ := hrel
          by_cases hlt2 : j < i
          · have hj2 : (j : Int) < (i : Int) := by omega
            obtain ⟨k, hk⟩ : ∃ k, kN i t j = k := ⟨_, rfl⟩
            have hkn : k < i := by rw [← hk]; exact kN_lt hlt2
            have hk2 : (k : Int) < (i : Int) := by omega
            have w1 : IntKind.i64.wrap ((i : Int) - 1) = (i : Int) - 1 := IntWalk.i64_in _ (by omega)
            have w2 : IntKind.i64.wrap ((i : Int) - 1 - (j : Int)) = (i : Int) - 1 - (j : Int) := IntWalk.i64_in _ (by omega)
            have w3 : IntKind.i64.wrap ((i : Int) - 1 - (j : Int) + (t : Int)) = (i : Int) - 1 - (j : Int) + (t : Int) := IntWalk.i64_in _ (by omega)
            have w4 : IntKind.i64.wrap (t : Int) = (t : Int) := IntWalk.i64_in _ (by omega)
            have hmod : ((i : Int) - 1 - (j : Int) + (t : Int)).tmod (i : Int) = (k : Int) := by
              have e : (i : Int) - 1 - (j : Int) + (t : Int) = ((i - 1 - j + t : Nat) : Int) := by omega
              rw [e, ← hk]
              unfold kN
              rw [Int.tmod_eq_emod_of_nonneg (by omega)]
              omega
            have hne : ¬ (i : Int) = 0 := by omega
            have hjA : j < l.length := by rw [HN.out]; exact hlt2
            have hkA : k < l.length := by rw [HN.out]; exact hkn
            obtain ⟨g3, o3, rfl⟩ := (HRD.out.st sw).addr (by omega)
            have hmx : nthE l (kN l.length t j) = l[k] := by rw [HN.out, hk, nthE_get hkA]
            have hts : l.take (j + 1) = l.take j ++ [l[j]] := List.take_succ_eq_append_getElem hjA
            have hms : mN l t (j + 1) = mN l t j ++ [l[k]] := by rw [mN_succ, hmx]
            have hL : ∀ (L : List HP) w', St W w' L → (loadG 35 (.pointer (some ⟨g3, o3 + j * 9, none⟩))).run Tryz.prog w' = .ok (.agg l[j].cells.toArray) w' ∧ (loadG 35 (.pointer (some ⟨g3, o3 + k * 9, none⟩))).run Tryz.prog w' = .ok (.agg l[k].cells.toArray) w' :=
              fun L w' s => ⟨renC_ld (HRD.out.st s) hjA, renC_ld (HRD.out.st s) hkA⟩
            obtain ⟨x, hx⟩ : ∃ x, l[j] = x := ⟨_, rfl⟩
            obtain ⟨y, hy⟩ : ∃ y, l[k] = y := ⟨_, rfl⟩
            rw [hx] at hts hL
            rw [hy] at hms hL
            have HSA : Hid (NInv (r.merge x) (l.take (j + 1)) ∧ r.mergeW x = checkE x) := hid (by rw [hts]; exact HIA.out.step (by rw [List.length_take]; omega) x)
            have HSB : Hid (NInv (q.merge y) (mN l t (j + 1)) ∧ q.mergeW y = checkE y) := hid (by rw [hms]; exact HIB.out.step (by rw [mN_len]; omega) y)
            have HLL := hid hL
            clear hx hy hts hms hmx hjA hkA hk hL
            go_wp2_with fail
            go_cut [14, 15] (fun p v wx => ∃ T U, p = .pointer (some ⟨T, 0, none⟩) ∧ v = .pointer (some ⟨U, 0, none⟩) ∧ St W wx (row T 0 x.cells :: row U 0 y.cells :: RepA A r :: RepA B q :: []))
            case first =>
              have s5 := sw.drew
              refine wp_region_vals (fun d v w' => (d 0 = true → v 0 = .slice (some ⟨g3, o3, none⟩) i c) ∧ (d 1 = true → v 1 = .int .i64 j) ∧ (d 2 = true → v 2 = .pointer (some ⟨g3, o3 + j * 9, none⟩)) ∧ (d 3 = true → v 3 = .agg x.cells.toArray) ∧
                (d 4 = true → v 4 = .slice (some ⟨g3, o3, none⟩) i c) ∧ (d 5 = true → v 5 = .int .i64 k) ∧ (d 6 = true → v 6 = .pointer (some ⟨g3, o3 + k * 9, none⟩)) ∧ (d 7 = true → v 7 = .agg y.cells.toArray) ∧
                (d 8 = true → v 8 = .pointer (some ⟨ptrBlk (v 8), 0, none⟩)) ∧ (d 9 = true → v 9 = .pointer (some ⟨ptrBlk (v 9), 0, none⟩)) ∧ (d 10 = true → d 8 = true) ∧ (d 11 = true → d 9 = true) ∧
                St W w' (optR (d 8) (v 8) (if d 10 = true then x.cells else en0.cells) :: optR (d 9) (v 9) (if d 11 = true then y.cells else en0.cells) :: RepA A r :: RepA B q :: []))
                (by kernel_rfl) (by kernel_rfl) (fun _ => undef) ?_ ?_ ?_
              · exact ⟨fun h => (by cases h), fun h => (by cases h), fun h => (by cases h), fun h => (by cases h), fun h => (by cases h), fun h => (by cases h), fun h => (by cases h), fun h => (by cases h), fun h => (by cases h), fun h => (by cases h), fun h => (by cases h), fun h => (by cases h), s5.empD.empD⟩
              · rintro z o ho d v w' ⟨i0, i1, i2, i3, i4, i5, i6, i7, i8, i9, i10, i11, sI⟩ hd he
                match z, ho with
                | 0, ho =>
                  cases ho
                  exact vals_move (.tmp 0) rfl ((putD_out (by simp)).trans rfl) ⟨_, rfl, fun _ => rfl, i1, i2, i3, i4, i5, i6, i7, i8, i9, i10, i11, sI⟩
                | 1, ho =>
                  cases ho
                  exact vals_move (.tmp 12) rfl ((putD_out (by simp)).trans rfl) ⟨_, rfl, i0, fun _ => rfl, i2, i3, i4, i5, i6, i7, i8, i9, i10, i11, sI⟩
                | 2, ho =>
                  cases ho
                  have d0 : d 0 = true := he ⟨0, .data⟩ (by simp) rfl
                  have d1 : d 1 = true := he ⟨1, .data⟩ (by simp) rfl
                  exact vals_idx (.tmp 94) (.tmp 95) rfl elemR ((putD_in (m := 0) rfl rfl (by decide) d0 (show 94 < 209 by decide)).trans (i0 d0)) ((putD_in (m := 1) rfl rfl (by decide) d1 (show 95 < 209 by decide)).trans (i1 d1)) hlt2 ⟨_, rfl, i0, i1, fun _ => rfl, i3, i4, i5, i6, i7, i8, i9, i10, i11, sI⟩
                | 3, ho =>
                  cases ho
                  have d2 : d 2 = true := he ⟨2, .data⟩ (by simp) rfl
                  exact vals_load (.tmp 96) rfl ((putD_in (m := 2) rfl rfl (by decide) d2 (show 96 < 209 by decide)).trans (i2 d2)) (HLL.out _ _ sI).1 ⟨_, rfl, i0, i1, i2, fun _ => rfl, i4, i5, i6, i7, i8, i9, i10, i11, sI⟩
                | 4, ho =>
                  cases ho
                  exact vals_move (.tmp 0) rfl ((putD_out (by simp)).trans rfl) ⟨_, rfl, i0, i1, i2, i3, fun _ => rfl, i5, i6, i7, i8, i9, i10, i11, sI⟩
                | 5, ho =>
                  cases ho
                  exact vals_move (.tmp 13) rfl ((putD_out (by simp)).trans rfl) ⟨_, rfl, i0, i1, i2, i3, i4, fun _ => rfl, i6, i7, i8, i9, i10, i11, sI⟩
                | 6, ho =>
                  cases ho
                  have d4 : d 4 = true := he ⟨4, .data⟩ (by simp) rfl
                  have d5 : d 5 = true := he ⟨5, .data⟩ (by simp) rfl
                  exact vals_idx (.tmp 98) (.tmp 99) rfl elemR ((putD_in (m := 4) rfl rfl (by decide) d4 (show 98 < 209 by decide)).trans (i4 d4)) ((putD_in (m := 5) rfl rfl (by decide) d5 (show 99 < 209 by decide)).trans (i5 d5)) hkn ⟨_, rfl, i0, i1, i2, i3, i4, i5, fun _ => rfl, i7, i8, i9, i10, i11, sI⟩
                | 7, ho =>
                  cases ho
                  have d6 : d 6 = true := he ⟨6, .data⟩ (by simp) rfl
                  exact vals_load (.tmp 100) rfl ((putD_in (m := 6) rfl rfl (by decide) d6 (show 100 < 209 by decide)).trans (i6 d6)) (HLL.out _ _ sI).2 ⟨_, rfl, i0, i1, i2, i3, i4, i5, i6, fun _ => rfl, i8, i9, i10, i11, sI⟩
                | 8, ho =>
                  cases ho
                  have d10 : d 10 = false := by cases h : d 10 with | false => rfl | true => rw [i10 h] at hd; cases hd
                  rw [hd, d10] at sI
                  refine vals_alloc rfl zero_enTo sI ?_
                  intro b' w4 s4
                  refine ⟨_, rfl, i0, i1, i2, i3, i4, i5, i6, i7, fun _ => rfl, i9, fun _ => rfl, i11, ?_⟩
                  show St W w4 (row b' 0 (if d 10 = true then x.cells else en0.cells) :: optR (d 9) (v 9) (if d 11 = true then y.cells else en0.cells) :: _)
                  rw [d10]
                  exact (St.pick 1 s4).drop
                | 9, ho =>
                  cases ho
                  have d11 : d 11 = false := by cases h : d 11 with | false => rfl | true => rw [i11 h] at hd; cases hd
                  rw [hd, d11] at sI
                  refine vals_alloc rfl zero_enTo sI ?_
                  intro b' w4 s4
                  refine ⟨_, rfl, i0, i1, i2, i3, i4, i5, i6, i7, i8, fun _ => rfl, i10, fun _ => rfl, ?_⟩
                  show St W w4 (optR (d 8) (v 8) (if d 10 = true then x.cells else en0.cells) :: row b' 0 (if d 11 = true then y.cells else en0.cells) :: _)
                  rw [d11]
                  exact St.pick 1 ((St.pick 2 s4).drop)
                | 10, ho =>
                  cases ho
                  have d8 : d 8 = true := he ⟨8, .data⟩ (by simp) rfl
                  have d3 : d 3 = true := he ⟨3, .data⟩ (by simp) rfl
                  rw [d8, hd] at sI
                  refine vals_store (.tmp 14) (.tmp 97) rfl agg_ren ((putD_in (m := 8) rfl rfl (by decide) d8 (show 14 < 209 by decide)).trans (i8 d8)) ((putD_in (m := 3) rfl rfl (by decide) d3 (show 97 < 209 by decide)).trans (i3 d3)) ⟨rfl, en_one _⟩ sI rfl ?_
                  intro w4 s4
                  refine ⟨_, rfl, i0, i1, i2, i3, i4, i5, i6, i7, i8, i9, fun _ => d8, i11, ?_⟩
                  show St W w4 (optR (d 8) (v 8) x.cells :: _)
                  rw [d8]
                  exact s4
                | 11, ho =>
                  cases ho
                  have d9 : d 9 = true := he ⟨9, .data⟩ (by simp) rfl
                  have d7 : d 7 = true := he ⟨7, .data⟩ (by simp) rfl
                  rw [d9, hd] at sI
                  refine vals_store (.tmp 15) (.tmp 101) rfl agg_ren ((putD_in (m := 9) rfl rfl (by decide) d9 (show 15 < 209 by decide)).trans (i9 d9)) ((putD_in (m := 7) rfl rfl (by decide) d7 (show 101 < 209 by decide)).trans (i7 d7)) ⟨rfl, en_one _⟩ (St.pick 1 sI) rfl ?_
                  intro w4 s4
                  refine ⟨_, rfl, i0, i1, i2, i3, i4, i5, i6, i7, i8, i9, i10, fun _ => d9, ?_⟩
                  show St W w4 (optR (d 8) (v 8) (if d 10 = true then x.cells else en0.cells) :: optR (d 9) (v 9) y.cells :: _)
                  rw [d9]
                  exact St.pick 1 s4
                | n + 12, ho => simp at ho
              · rintro v w' ⟨i0, i1, i2, i3, i4, i5, i6, i7, i8, i9, i10, i11, sI⟩
                simp only [putAll, Act.put, List.setIfInBounds_toArray, List.set_cons_succ, List.set_cons_zero]
                have sJ : St W w' (row (ptrBlk (v 8)) 0 x.cells :: row (ptrBlk (v 9)) 0 y.cells :: RepA A r :: RepA B q :: []) := sI
                have j8 := i8 rfl; have j9 := i9 rfl
                go_wp2_with fail
                go_meet
                case rel => exact ⟨_, _, j8, j9, sJ⟩
            case rest =>
            obtain ⟨T, U, rfl, rfl, s6⟩ := hcut
            obtain ⟨cx, hcx⟩ : ∃ cx, checkE x = cx := ⟨_, rfl⟩
            obtain ⟨cy, hcy⟩ : ∃ cy, checkE y = cy := ⟨_, rfl⟩
            obtain ⟨zx, hzx⟩ : ∃ zx, r.mergeX x = zx := ⟨_, rfl⟩
            obtain ⟨zy, hzy⟩ : ∃ zy, q.mergeX y = zy := ⟨_, rfl⟩
            have HCX := hid hcx; have HCY := hid hcy; have HZX := hid hzx; have HZY := hid hzy
            have HWX : Hid (r.mergeW x = cx) := hid (by rw [HSA.out.2, hcx])
            have HWY : Hid (q.mergeW y = cy) := hid (by rw [HSB.out.2, hcy])
            have HRX : Hid (rcheckE x = cx) := hid (by rw [rcheckE_is, hcx])
            have HRY : Hid (rcheckE y = cy) := hid (by rw [rcheckE_is, hcy])
            have lT := run_loadG agg_ren (vs := x.cells) rfl s6.rowAll
            clear hcx hcy hzx hzy
            go_upto_region 21 with (first
              | (go_at_call 17; have gg := sA; refine enOf_c (e := y) sA ?_; rintro wB sB)
              | (go_at_call 17; refine enOf_c (e := x) s6 ?_; rintro w7 s7)
              | (go_at_call 16; have gg := sB; refine merge_c (e := y) HRB.out (St.pick 4 sB) ?_; rintro wC sC; rw [HZY.out, HWY.out])
              | (go_at_call 16; refine merge_c (e := x) HRA.out (St.pick 2 s7) ?_; rintro w8 s8; rw [HZX.out, HWX.out])
              | (have gg := sC; refine wpl_allocA rfl rfl zero_en sC ?_; rintro M2 wD sD)
              | (have gg := sD; refine wpl_storeA (vs := zy.cells) rfl (.tmp 20) (.tmp 116) (by rfl) agg_en (by rfl) (by rfl) rfl (env_one _) sD rfl ?_; rintro wE sE; have lT2 := run_loadG agg_ren (vs := x.cells) rfl (St.pick 4 sE).rowAll)
              | (refine wpl_allocA rfl rfl zero_en s8 ?_; rintro M w9 s9)
              | (refine wpl_storeA (vs := zx.cells) rfl (.tmp 17) (.tmp 108) (by rfl) agg_en (by rfl) (by rfl) rfl (env_one _) s9 rfl ?_; rintro wA sA; have lU := run_loadG agg_ren (vs := y.cells) rfl (St.pick 3 sA).rowAll))
            go_wp2_with (first
              | (go_at_call 18; have gg := sF; refine rcheckE_c (e := y) sF ?_; rintro wG sG; rw [HRY.out])
              | (go_at_call 18; refine rcheckE_c (e := x) sE ?_; rintro wF sF; rw [HRX.out]; have lU2 := run_loadG agg_ren (vs := y.cells) rfl (St.pick 5 sF).rowAll))
            go_roundw
            case rel => exact ⟨j + 1, r.merge x, q.merge y, by omega, by go_num, hid HSA.out.1, hid HSB.out.1, hid (HRA.out.merge x), hid (HRB.out.merge y), (sG.perm [3, 1]).takeN 2⟩
            case measure => simp [intOf]; omega
          · have hje : j = i := by omega
            subst hje
            have hia := HIA.out
            rw [List.take_of_length_le (by rw [HN.out]; exact Nat.le_refl _)] at hia
            have hmem : ∀ x, x ∈ l ↔ x ∈ mN l t j := fun x => by have := mN_mem l t x; rwa [HN.out] at this
            have HBO : Hid (∀ x ∈ l, checkE x = 0 → thas r.tab x.key = true ∧ thas q.tab x.key = true ∧ (tget r.tab x.key).sc = (tget q.tab x.key).sc ∧ (tget r.tab x.key).ss = (tget q.tab x.key).ss ∧ (tget r.tab x.key).ac = (tget q.tab x.key).ac ∧
              (tget r.tab x.key).az = (tget q.tab x.key).az ∧ newerB x (tget r.tab x.key) = false ∧ ∃ y ∈ l, checkE y = 0 ∧ alikeE y (tget r.tab x.key)) := hid (fun x hx hc => hia.both HIB.out hmem hx hc)
            have HMANY : Hid (r.tab.length = q.tab.length) := hid (hia.many HIB.out hmem)
            clear hia hmem
            go_wp2_with fail
            go_loopw [131] (fun ii wr => ∃ k : Nat, k ≤ j ∧ ii = .int .i64 k ∧ St W wr (RepA A r :: RepA B q :: [])) (fun ii _ => j - (intOf ii).toNat)
            case atStart => exact ⟨0, Nat.zero_le _, rfl, sw⟩
            case round =>
              obtain ⟨k, hk, rfl, sy⟩ := hrel
              by_cases hlt3 : k < j
              · have hk2 : (k : Int) < (j : Int) := by omega
                have hkA : k < l.length := by rw [HN.out]; exact hlt3
                have rdr := HRD.out.st sy
                obtain ⟨g3, o3, rfl⟩ := rdr.addr (by omega)
                have ci := renC_ld rdr hkA
                have hm := List.getElem_mem hkA
                obtain ⟨x, hx⟩ : ∃ x, l[k] = x := ⟨_, rfl⟩
                rw [hx] at ci hm
                have HM := hid hm
                obtain ⟨cx, hcx⟩ : ∃ cx, checkE x = cx := ⟨_, rfl⟩
                have HCX := hid hcx
                have HRX : Hid (rcheckE x = cx) := hid (by rw [rcheckE_is, hcx])
                clear hx hm hcx rdr hkA
                by_cases h0 : cx = 0
                · subst h0
                  obtain ⟨b1, b2, b3, b4, b5, b6, b7, y0, hy0, hy1, hy2⟩ := HBO.out x HM.out HCX.out
                  obtain ⟨sx, hsx⟩ : ∃ sx, tget r.tab x.key = sx := ⟨_, rfl⟩
                  obtain ⟨tx, htx⟩ : ∃ tx, tget q.tab x.key = tx := ⟨_, rfl⟩
                  rw [hsx] at b3 b4 b5 b6 b7 hy2
                  rw [htx] at b3 b4 b5 b6
                  have HSX := hid hsx; have HTX := hid htx; have H1 := hid b1; have H2 := hid b2
                  have e1 : eq2B sx.sc sx.ss tx.sc tx.ss = true := by unfold eq2B; rw [b3, b4]; simp
                  have e2 : eq2B sx.ac sx.az tx.ac tx.az = true := by unfold eq2B; rw [b5, b6]; simp
                  have HNW := hid b7
                  have HAM : Hid (amB l sx = true) := hid (by
                    unfold amB
                    rw [List.any_eq_true]
                    exact ⟨y0, hy0, by rw [hy1, alikeE_B hy2]; rfl⟩)
                  clear hsx htx b1 b2 b3 b4 b5 b6 b7 hy0 hy1 hy2
                  go_upto_region 30 with (first
                    | (refine wpl_allocA rfl rfl zero_enTo sy ?_; rintro T w2 s2)
                    | (refine wpl_storeA (vs := x.cells) rfl (.tmp 23) (.tmp 134) (by rfl) agg_ren (by rfl) (by rfl) rfl (en_one _) s2 rfl ?_; rintro w3 s3; have lT := run_loadG agg_ren (vs := x.cells) rfl s3.rowAll)
                    | (go_at_call 18; refine rcheckE_c (e := x) s3 ?_; rintro w4 s4; rw [HRX.out]; obtain ⟨c0, c1, c2, c3, c4, c5, c6⟩ := enLOf s4)
                    | (go_at_call 19; have gg := s8; refine entry_c HRB.out (St.pick 3 s8) ?_; rintro w9 s9; rw [HTX.out, H2.out])
                    | (go_at_call 19; refine entry_c HRA.out (St.pick 1 s4) ?_; rintro w5 s5; rw [HSX.out, H1.out])
                    | (have gg := s9; refine wpl_allocA rfl rfl zero_en s9 ?_; rintro U2 wA sA)
                    | (have gg := sA; refine wpl_storeA (vs := tx.cells) rfl (.tmp 26) (.tmp 150) (by rfl) agg_en (by rfl) (by rfl) rfl (env_one _) sA rfl ?_; rintro wB sB)
                    | (refine wpl_allocA rfl rfl zero_en s5 ?_; rintro U1 w6 s6)
                    | (refine wpl_storeA (vs := sx.cells) rfl (.tmp 24) (.tmp 143) (by rfl) agg_en (by rfl) (by rfl) rfl (env_one _) s6 rfl ?_; rintro w7 s8; clear c0; obtain ⟨c0, _⟩ := enLOf (St.pick 2 s8)))
                  have sC : St W _ (row U1 0 sx.cells :: row U2 0 tx.cells :: row T 0 x.cells :: RepA A r :: RepA B q :: []) := sB.perm [2, 0, 2, 1]
                  clear c0 c1 c2 c3 c4 c5 c6 lT
                  go_cut [28, 29] (fun p v wx => ∃ M N, p = .pointer (some ⟨M, 0, none⟩) ∧ v = .pointer (some ⟨N, 0, none⟩) ∧ St W wx (row M 0 sx.cells :: row N 0 tx.cells :: row T 0 x.cells :: RepA A r :: RepA B q :: []))
                  case first =>
                    refine wp_region_vals (fun d v w' => (d 0 = true → v 0 = .agg sx.cells.toArray) ∧ (d 1 = true → v 1 = .agg sx.cells.toArray) ∧ (d 2 = true → v 2 = .agg tx.cells.toArray) ∧ (d 3 = true → v 3 = .agg tx.cells.toArray) ∧
                      (d 4 = true → v 4 = .pointer (some ⟨ptrBlk (v 4), 0, none⟩)) ∧ (d 5 = true → v 5 = .pointer (some ⟨ptrBlk (v 5), 0, none⟩)) ∧ (d 6 = true → d 4 = true) ∧ (d 7 = true → d 5 = true) ∧
                      St W w' (optR (d 4) (v 4) (if d 6 = true then sx.cells else en0.cells) :: optR (d 5) (v 5) (if d 7 = true then tx.cells else en0.cells) :: row U1 0 sx.cells :: row U2 0 tx.cells :: row T 0 x.cells :: RepA A r :: RepA B q :: []))
                      (by kernel_rfl) (by kernel_rfl) (fun _ => undef) ?_ ?_ ?_
                    · exact ⟨fun h => (by cases h), fun h => (by cases h), fun h => (by cases h), fun h => (by cases h), fun h => (by cases h), fun h => (by cases h), fun h => (by cases h), fun h => (by cases h), sC.drew.empD.empD⟩
                    · rintro z o ho d v w' ⟨i0, i1, i2, i3, i4, i5, i6, i7, sI⟩ hd he
                      match z, ho with
                      | 0, ho =>
                        cases ho
                        exact vals_load (.tmp 24) rfl ((putD_out (by simp)).trans rfl) (run_loadG agg_en (vs := sx.cells) rfl (St.pick 2 sI).rowAll) ⟨_, rfl, fun _ => rfl, i1, i2, i3, i4, i5, i6, i7, sI⟩
                      | 1, ho =>
                        cases ho
                        have d0 : d 0 = true := he ⟨0, .data⟩ (by simp) rfl
                        refine vals_call rfl (enters_of Tryz.func20 (by kernel_rfl) rfl) ((putD_in (m := 0) rfl rfl (by decide) d0 (show 152 < 209 by decide)).trans (i0 d0)) ?_
                        refine enTo_c (e := sx) sI ?_
                        intro w4 s4
                        exact ⟨_, rfl, _, rfl, i0, fun _ => rfl, i2, i3, i4, i5, i6, i7, s4⟩
                      | 2, ho =>
                        cases ho
                        exact vals_load (.tmp 26) rfl ((putD_out (by simp)).trans rfl) (run_loadG agg_en (vs := tx.cells) rfl (St.pick 3 sI).rowAll) ⟨_, rfl, i0, i1, fun _ => rfl, i3, i4, i5, i6, i7, sI⟩
                      | 3, ho =>
                        cases ho
                        have d2 : d 2 = true := he ⟨2, .data⟩ (by simp) rfl
                        refine vals_call rfl (enters_of Tryz.func20 (by kernel_rfl) rfl) ((putD_in (m := 2) rfl rfl (by decide) d2 (show 154 < 209 by decide)).trans (i2 d2)) ?_
                        refine enTo_c (e := tx) sI ?_
                        intro w4 s4
                        exact ⟨_, rfl, _, rfl, i0, i1, i2, fun _ => rfl, i4, i5, i6, i7, s4⟩
                      | 4, ho =>
                        cases ho
                        have d6 : d 6 = false := by cases h : d 6 with | false => rfl | true => rw [i6 h] at hd; cases hd
                        rw [hd, d6] at sI
                        refine vals_alloc rfl zero_enTo sI ?_
                        intro b' w4 s4
                        refine ⟨_, rfl, i0, i1, i2, i3, fun _ => rfl, i5, fun _ => rfl, i7, ?_⟩
                        show St W w4 (row b' 0 (if d 6 = true then sx.cells else en0.cells) :: optR (d 5) (v 5) (if d 7 = true then tx.cells else en0.cells) :: _)
                        rw [d6]
                        exact (St.pick 1 s4).drop
                      | 5, ho =>
                        cases ho
                        have d7 : d 7 = false := by cases h : d 7 with | false => rfl | true => rw [i7 h] at hd; cases hd
                        rw [hd, d7] at sI
                        refine vals_alloc rfl zero_enTo sI ?_
                        intro b' w4 s4
                        refine ⟨_, rfl, i0, i1, i2, i3, i4, fun _ => rfl, i6, fun _ => rfl, ?_⟩
                        show St W w4 (optR (d 4) (v 4) (if d 6 = true then sx.cells else en0.cells) :: row b' 0 (if d 7 = true then tx.cells else en0.cells) :: _)
                        rw [d7]
                        exact St.pick 1 ((St.pick 2 s4).drop)
                      | 6, ho =>
                        cases ho
                        have d4 : d 4 = true := he ⟨4, .data⟩ (by simp) rfl
                        have d1 : d 1 = true := he ⟨1, .data⟩ (by simp) rfl
                        rw [d4, hd] at sI
                        refine vals_store (.tmp 28) (.tmp 153) rfl agg_ren ((putD_in (m := 4) rfl rfl (by decide) d4 (show 28 < 209 by decide)).trans (i4 d4)) ((putD_in (m := 1) rfl rfl (by decide) d1 (show 153 < 209 by decide)).trans (i1 d1)) ⟨rfl, en_one _⟩ sI rfl ?_
                        intro w4 s4
                        refine ⟨_, rfl, i0, i1, i2, i3, i4, i5, fun _ => d4, i7, ?_⟩
                        show St W w4 (optR (d 4) (v 4) sx.cells :: _)
                        rw [d4]
                        exact s4
                      | 7, ho =>
                        cases ho
                        have d5 : d 5 = true := he ⟨5, .data⟩ (by simp) rfl
                        have d3 : d 3 = true := he ⟨3, .data⟩ (by simp) rfl
                        rw [d5, hd] at sI
                        refine vals_store (.tmp 29) (.tmp 155) rfl agg_ren ((putD_in (m := 5) rfl rfl (by decide) d5 (show 29 < 209 by decide)).trans (i5 d5)) ((putD_in (m := 3) rfl rfl (by decide) d3 (show 155 < 209 by decide)).trans (i3 d3)) ⟨rfl, en_one _⟩ (St.pick 1 sI) rfl ?_
                        intro w4 s4
                        refine ⟨_, rfl, i0, i1, i2, i3, i4, i5, i6, fun _ => d5, ?_⟩
                        show St W w4 (optR (d 4) (v 4) (if d 6 = true then sx.cells else en0.cells) :: optR (d 5) (v 5) tx.cells :: _)
                        rw [d5]
                        exact St.pick 1 s4
                      | n + 8, ho => simp at ho
                    · rintro v w' ⟨i0, i1, i2, i3, i4, i5, i6, i7, sI⟩
                      simp only [putAll, Act.put, List.setIfInBounds_toArray, List.set_cons_succ, List.set_cons_zero]
                      have sJ : St W w' (row (ptrBlk (v 4)) 0 sx.cells :: row (ptrBlk (v 5)) 0 tx.cells :: row U1 0 sx.cells :: row U2 0 tx.cells :: row T 0 x.cells :: RepA A r :: RepA B q :: []) := sI
                      have j4 := i4 rfl; have j5 := i5 rfl
                      go_wp2_with fail
                      go_meet
                      case rel => exact ⟨_, _, j4, j5, sJ.perm [0, 0, 2, 2, 2] |>.takeN 5⟩
                  case rest =>
                  obtain ⟨M, N, rfl, rfl, sD⟩ := hcut
                  obtain ⟨m0, m1, m2, m3, m4, m5, m6⟩ := enLOf sD
                  obtain ⟨n0, n1, n2, n3, n4, n5, n6⟩ := enLOf (St.pick 1 sD)
                  have lM := run_loadG agg_ren (vs := sx.cells) rfl sD.rowAll
                  have lX := run_loadG agg_ren (vs := x.cells) rfl (St.pick 2 sD).rowAll
                  go_wp2_with (go_at_call 21; refine rnewer_c (a := x) (b := sx) sD ?_; rintro wE sE; rw [HNW.out])
                  clear m0 m1 m2 m3 m4 m5 m6 n0 n1 n2 n3 n4 n5 n6 lM lX
                  have HAZ : Hid (∀ m (h : m < l.length), amB (l.take (m + 1)) sx = (amB (l.take m) sx || (decide (checkE l[m] = 0) && alikeB l[m] sx))) := hid (fun m h => by
                    unfold amB; rw [List.take_succ_eq_append_getElem h, List.any_append]; simp)
                  go_loopw [30, 183] (fun vv ii wr => ∃ m : Nat, m ≤ j ∧ ii = .int .i64 m ∧ vv = .bool (amB (l.take m) sx) ∧ St W wr (row M 0 sx.cells :: RepA A r :: RepA B q :: [])) (fun _ ii _ => j - (intOf ii).toNat)
                  case atStart => exact ⟨0, Nat.zero_le _, rfl, rfl, (sE.perm [0, 2, 2]).takeN 3⟩
                  case round =>
                    obtain ⟨m, hm, rfl, rfl, sz⟩ := hrel
                    by_cases hlt4 : m < j
                    · have hm2 : (m : Int) < (j : Int) := by omega
                      have hmA : m < l.length := by rw [HN.out]; exact hlt4
                      have cm := renC_ld (HRD.out.st sz) hmA
                      have HS := hid (HAZ.out m hmA)
                      obtain ⟨y, hy⟩ : ∃ y, l[m] = y := ⟨_, rfl⟩
                      obtain ⟨bb, hbb⟩ : ∃ b, amB (l.take m) sx = b := ⟨_, rfl⟩
                      obtain ⟨cy, hcy⟩ : ∃ c, checkE y = c := ⟨_, rfl⟩
                      obtain ⟨al, hal⟩ : ∃ c, alikeB y sx = c := ⟨_, rfl⟩
                      rw [hy] at cm HS
                      rw [hbb, hcy, hal] at HS
                      have HRY : Hid (rcheckE y = cy) := hid (by rw [rcheckE_is, hcy])
                      have HAL := hid hal
                      rw [hbb]
                      clear hy hbb hcy hal hmA
                      go_upto_region 37 with (first
                        | (refine wpl_allocA rfl rfl zero_enTo sz ?_; rintro Y wF sF)
                        | (refine wpl_storeA (vs := y.cells) rfl (.tmp 32) (.tmp 186) (by rfl) agg_ren (by rfl) (by rfl) rfl (en_one _) sF rfl ?_; rintro wG sG; have lY := run_loadG agg_ren (vs := y.cells) rfl sG.rowAll))
                      cases bb with
                      | true =>
                        go_wp2_with fail
                        go_roundw
                        case rel => exact ⟨m + 1, by omega, by go_num, by rw [HS.out]; rfl, sG.drop⟩
                        case measure => simp [intOf]; omega
                      | false =>
                        by_cases hz : cy = 0
                        · subst hz
                          go_wp2_with (first
                            | (go_at_call 18; refine rcheckE_c (e := y) sG ?_; rintro wH sH; rw [HRY.out]; have lY2 := run_loadG agg_ren (vs := y.cells) rfl sH.rowAll; have lM2 := run_loadG agg_ren (vs := sx.cells) rfl (St.pick 1 sH).rowAll)
                            | (go_at_call 22; refine ralike_c (a := y) (b := sx) sH ?_; rintro wI sI; rw [HAL.out]))
                          go_roundw
                          case rel => exact ⟨m + 1, by omega, by go_num, by rw [HS.out]; rfl, sI.drop⟩
                          case measure => simp [intOf]; omega
                        · have hz2 : (cy == 0) = false := by simp [hz]
                          have hz3 : decide (cy = 0) = false := decide_eq_false hz
                          rw [hz3] at HS
                          clear hz3
                          go_wp2_with (go_at_call 18; refine rcheckE_c (e := y) sG ?_; rintro wH sH; rw [HRY.out])
                          go_roundw
                          case rel => exact ⟨m + 1, by omega, by go_num, by rw [HS.out]; rfl, sH.drop⟩
                          case measure => simp [intOf]; omega
                    · have hme : m = j := by omega
                      subst hme
                      have ham : amB (l.take m) sx = true := by rw [List.take_of_length_le (by rw [HN.out]; exact Nat.le_refl _)]; exact HAM.out
                      rw [ham]
                      clear ham
                      go_wp2_with fail
                      go_roundw
                      case rel => exact ⟨k + 1, by omega, by go_num, sz.drop⟩
                      case measure => simp [intOf]; omega
                · have h1 : (cx != 0) = true := by simp [h0]
                  go_wp2_with (first
                    | (refine wpl_allocA rfl rfl zero_enTo sy ?_; rintro T w2 s2)
                    | (refine wpl_storeA (vs := x.cells) rfl (.tmp 23) (.tmp 134) (by rfl) agg_ren (by rfl) (by rfl) rfl (en_one _) s2 rfl ?_; rintro w3 s3; have lT := run_loadG agg_ren (vs := x.cells) rfl s3.rowAll)
                    | (go_at_call 18; refine rcheckE_c (e := x) s3 ?_; rintro w4 s4; rw [HRX.out]))
                  go_roundw
                  case rel => exact ⟨k + 1, by omega, by go_num, s4.drop⟩
                  case measure => simp [intOf]; omega
              · have hke : k = j := by omega
                subst hke
                obtain ⟨na, hna⟩ : ∃ na, r.tab.length = na := ⟨_, rfl⟩
                have HNA2 := hid hna
                have HNB2 : Hid (q.tab.length = na) := hid (by rw [← HMANY.out, hna])
                clear hna
                go_wp2_with (first
                  | (go_at_call 23; have gg := s2; refine entries_c HRB.out (St.pick 2 s2) ?_; rintro a4 n4 c4 w4 hn4 s4; rw [HNB2.out] at hn4; subst hn4)
                  | (go_at_call 23; refine entries_c HRA.out sy ?_; rintro a2 n2 c2 w2 hn2 s2; rw [HNA2.out] at hn2; subst hn2))
                exact HK.out _ s4.below
end
end Go.Proofs.YtggbeedghblakaaGreatDoor
