/- NetPlays: the law's own walk. -/
import Derived.Test.YtnibgchgcggfbabNetRK
namespace Go.Proofs.Ytnibgchgcggfbab
open Go.RowKit Go.Qd
attribute [local go_sem ↓] execOp_load43

section
variable {W w : World} {R : List HP} {post : Ending → World → Prop} {b k : Nat} {N : NetV} {M : RN} {qs E : List PV}

theorem do_c {x : ActV} (st : St W w (NetA b N :: OwnS 4 M.a M.n M.c (pcells qs) :: sepL (E.map PV.bytes) :: R)) (h : PS k N M qs E) (hk : k ≤ 4000) (rx : RdS W 1 x.a x.m x.c (bvs x.L)) (hm : x.m ≤ 100)
    (K : ∀ w' N' M' qs' E', St W w' (NetA b N' :: OwnS 4 M'.a M'.n M'.c (pcells qs') :: sepL (E'.map PV.bytes) :: R) → PS (k + 1) N' M' qs' E' → post (.returned (.tuple #[.agg (rnC M').toArray, .bool true])) w') :
    Calls Try.prog 16 #[.pointer (some ⟨b, 0, none⟩), .agg (rnC M).toArray, .agg #[.int .i64 x.kind, .int .i64 x.i, .int .i64 x.x, .int .i64 x.y, .slice x.a x.m x.c, .int .u8 x.by_, .bool x.cut]] w post := by
  obtain ⟨kd, i, p, q, a, m, c, L, by_, cut⟩ := x
  dsimp only at rx hm ⊢
  by_cases h0 : kd = 0
  · subst h0; exact do0 st h hk rx hm K
  by_cases h1 : kd = 1
  · subst h1; exact do1 (L := L) st h hk fun w' N' M' qs' E' s hp _ => K w' N' M' qs' E' s hp
  by_cases h2 : kd = 2
  · subst h2; exact do2 (L := L) st h hk K
  by_cases h3 : kd = 3
  · subst h3; exact do3 (L := L) st h hk K
  by_cases h4 : kd = 4
  · subst h4; exact do4 (L := L) st h hk K
  exact do5 (L := L) st h hk h0 h1 h2 h3 h4 K

end

theorem limbs14 {W w : World} {R R' : List HP} {T X : Nat} {M : RN} {v0 v1 v4 v5 v6 : Value} {p q : Int} (s : St W w (row T 0 (rnC M) :: R)) (s' : St W w (row X 0 [v0, v1, .int .i64 p, .int .i64 q, v4, v5, v6] :: R')) :
    w.cell? ⟨T, 2, none⟩ = some (.slice M.a M.n M.c) ∧ w.cell? ⟨T, 147, none⟩ = some (.int .i64 M.dropped) ∧ (loadG 43 (.pointer (some ⟨T, 0, none⟩))).run Try.prog w = .ok (.agg (rnC M).toArray) w ∧ w.cell? ⟨X, 2, none⟩ = some (.int .i64 p) ∧ w.cell? ⟨X, 3, none⟩ = some (.int .i64 q) :=
  ⟨rn_l s, rn_drop s, lg43 s, (boxV s').2.2.1, (boxV s').2.2.2.1⟩

/-- Where the outer loop stands. -/
def PlAt (W : World) (b T k : Nat) (N : NetV) (M : RN) (qs E : List PV) (wr : World) : Prop :=
  PS k N M qs E ∧ St W wr (row T 0 (rnC M) :: NetA b N :: OwnS 4 M.a M.n M.c (pcells qs) :: sepL (E.map PV.bytes) :: [])

/-- How many parcels are left, by the cell that holds their slice. -/
def leftAt (T : Nat) (w : World) : Nat := match w.cell? ⟨T, 2, none⟩ with
  | some (.slice _ n _) => n
  | _ => 0

set_option maxRecDepth 100000 in
set_option maxHeartbeats 8000000 in
theorem netPlays_c {W : World} {post : Ending → World → Prop} {al : Option Addr} {nl cl : Nat} {l : List ActV} {nodes room : Int}
    (rl : RdS W 7 al nl cl (actCells l)) (hok : ∀ x ∈ l, x.ok W)
    (K : ∀ w', Below W.heap.size W w' → post (.returned (.bool true)) w') : Calls Try.prog 4 #[.int .i64 nodes, .int .i64 room, .slice al nl cl] W post := by
  have HK := hid K; clear K
  have hml := rl.big
  have s0 := St.init W
  have hll := hid (actCells_len rl)
  by_cases h1 : fewB l = true
  · have h100 : ∀ x ∈ l, x.m ≤ 100 := by
      unfold fewB at h1
      simp only [Bool.and_eq_true, List.all_eq_true, decide_eq_true_eq] at h1
      exact h1.1
    have hn60 : nl ≤ 60 := by
      unfold fewB at h1
      simp only [Bool.and_eq_true, decide_eq_true_eq] at h1
      rw [hll.out] at h1; exact h1.2
    have H100 := hid h100; have HOK := hid hok; have HF := hid h1; clear h100 hok h1
    by_cases hnew : 2 ≤ nodes ∧ nodes ≤ 12 ∧ 1 ≤ room ∧ room ≤ 4096
    · have HN := hid hnew
      clear hnew
      go_enter Try.func4, Try.ntmps4
      go_wp2_with (first
        | (go_at_call 6; refine speaks_c s0 ?_; rintro w1 s1)
        | (go_at_call 14; refine few_c s1 rl ?_; rintro w2 s2; rw [HF.out])
        | (go_at_call 7; refine net_new_c s2 HN.out ?_; rintro b w3 s3)
        | (go_at_call 15; refine rnnew_c s3 HN.out ?_; rintro w4 s4)
        | (refine wpl_allocA rfl rfl zero43 s4 ?_; rintro T w5 s5)
        | (refine wpl_storeA (vs := rnC ⟨nodes, room, none, 0, 0, fun _ _ => false, 0⟩) rfl (.tmp 9) (.tmp 39) (by rfl) agg43 (by rfl) (by rfl) (rnC_len _) (rnC_one _) s5 (rnC_len _) ?_; rintro w6 s6))
      go_loopw [55] (fun ii wr => ∃ (k : Nat) (N : NetV) (M : RN) (qs E : List PV), k ≤ nl ∧ ii = .int .i64 k ∧ Hid (PlAt W b T k N M qs E wr)) (fun ii _ => nl - (intOf ii).toNat)
      case atStart => exact ⟨0, _, _, [], [], Nat.zero_le _, rfl, hid ⟨PS.start HN.out, ((OwnS.none0 (sz := 4) (s6.empD)).perm [2, 2, 0, 0])⟩⟩
      case round =>
        obtain ⟨k, N, M, qs, E, hk, rfl, hT⟩ := hrel
        obtain ⟨hP, sr⟩ := hT.out
        have HP := hid hP
        clear hP hT
        by_cases hlt : k < nl
        · obtain ⟨g, o, rfl⟩ := rl.addr (by omega)
          have hkl : k < l.length := by rw [hll.out]; exact hlt
          obtain ⟨c0, c1, c2, c3, c4, c5, c6⟩ := act7 (rl.st sr) hkl
          have hxok := HOK.out _ (List.getElem_mem hkl)
          have hx100 := H100.out _ (List.getElem_mem hkl)
          obtain ⟨x, hx⟩ : ∃ x, l[k] = x := ⟨_, rfl⟩
          rw [hx] at c0 c1 c2 c3 c4 c5 c6 hxok hx100
          clear hx
          have rx : RdS W 1 x.a x.m x.c (bvs x.L) := hxok
          have HX := hid rx
          clear hxok rx
          have s7 := sr.alloc #[.int .i64 x.kind, .int .i64 x.i, .int .i64 x.x, .int .i64 x.y, .slice x.a x.m x.c, .int .u8 x.by_, .bool x.cut] 47
          obtain ⟨d0, d1, d2, d3, d4, d5, d6⟩ := boxV s7
          have hk40 : k ≤ 4000 := by omega
          go_wp2_with (first
            | (refine wpl_loadA (vs := rnC M) rfl (.tmp 9) (by rfl) agg43 (by rfl) (rnC_len _) (St.pick 1 s7).rowAll ?_)
            | (go_at_call 16; refine do_c (x := x) (s7.perm [2, 2, 2]) HP.out hk40 HX.out hx100 ?_; rintro w8 N' M' qs' E' s8 hP'; have HP' := hid hP'; clear hP')
            | (refine wpl_allocA rfl rfl zero43 s8 ?_; rintro Y w9 s9)
            | (refine wpl_storeA (vs := rnC M') rfl (.tmp 13) (.tmp 64) (by rfl) agg43 (by rfl) (by rfl) (rnC_len _) (rnC_one _) s9 (rnC_len _) ?_; rintro wA sA)
            | (refine wpl_loadA (vs := rnC M') rfl (.tmp 13) (by rfl) agg43 (by rfl) (rnC_len _) sA.rowAll ?_)
            | (refine wpl_storeA (vs := rnC M') rfl (.tmp 9) (.tmp 66) (by rfl) agg43 (by rfl) (by rfl) (rnC_len _) (rnC_one _) (St.pick 5 sA) (rnC_len _) ?_; rintro wB sB))
          obtain ⟨cb, hcb⟩ : ∃ cb, cutB N' x.x x.y = cb := ⟨_, rfl⟩
          have HCB := hid hcb
          have HML := hid HP'.out.ml
          have HMD := hid HP'.out.md
          clear hcb c0 c1 c2 c3 c4 c5 c6 d0 d1 d2 d3 d4 d5 d6 s7 s8 s9 sA
          generalize wr.heap.size = X at sB ⊢
          have sC := sB.drew
          have gC := limbs14 sC (St.pick 5 sC)
          go_region_held3 (fun w' => w'.cell? ⟨T, 2, none⟩ = some (.slice M'.a M'.n M'.c) ∧ w'.cell? ⟨T, 147, none⟩ = some (.int .i64 M'.dropped) ∧ (loadG 43 (.pointer (some ⟨T, 0, none⟩))).run Try.prog w' = .ok (.agg (rnC M').toArray) w' ∧ w'.cell? ⟨X, 2, none⟩ = some (.int .i64 x.x) ∧ w'.cell? ⟨X, 3, none⟩ = some (.int .i64 x.y))
            (first
              | with_reducible exact gE
              | with_reducible exact gD
              | with_reducible exact gC)
            (first
              | (go_at_call 12; refine len_c (St.pick 2 sC) ?_; rw [← HML.out])
              | (go_at_call 13; refine dropped_c (St.pick 2 sC) ?_; rw [← HMD.out])
              | (go_at_call 17; refine ps_isCut (St.pick 2 sC) HP'.out ?_; rintro wD sD; rw [HCB.out]; have gD := limbs14 (St.pick 1 sD) (St.pick 5 sD))
              | (go_at_call 18; refine rs_isCut sD HP'.out ?_; rintro wE sE; rw [HCB.out]; have gE := limbs14 (St.pick 1 sE) (St.pick 5 sE)))
          all_goals
            have sF : St W wE (row T 0 (rnC M') :: NetA b N' :: OwnS 4 M'.a M'.n M'.c (pcells qs') :: sepL (E'.map PV.bytes) :: []) := sE.sel [1, 0, 1, 1]
            have hMn : M'.n ≤ 4096 := by have := HP'.out.ml; have := HP'.out.len; omega
            clear sE sD sC sB gC gD gE
            go_wp2_with fail
            go_loopw [15] (fun ii wx => ∃ j : Nat, j ≤ M'.n + 2 ∧ ii = .int .i64 ((j : Int) - 1) ∧ St W wx (row T 0 (rnC M') :: NetA b N' :: OwnS 4 M'.a M'.n M'.c (pcells qs') :: sepL (E'.map PV.bytes) :: [])) (fun ii _ => M'.n + 2 - (intOf ii + 1).toNat)
            case atStart => exact ⟨0, Nat.zero_le _, rfl, sF⟩
            case round =>
              obtain ⟨j, hj, rfl, sx⟩ := hrel
              have gl := rn_l sx
              by_cases hjn : j ≤ M'.n + 1
              · have hle : (j : Int) - 1 ≤ (M'.n : Int) := by omega
                by_cases hin : 1 ≤ j ∧ j ≤ M'.n
                · obtain ⟨i, rfl⟩ : ∃ i, j = i + 1 := ⟨j - 1, by omega⟩
                  have hi : i < N'.ps.length := by have := HML.out; omega
                  obtain ⟨hq, e1, e2, _, _, _⟩ := HP'.out.at hi
                  have rdq := OwnS.rd (St.pick 2 sx)
                  obtain ⟨g3, o3, hga⟩ := rdq.addr (by omega)
                  rw [hga] at gl rdq
                  have HGA := hid hga
                  clear hga
                  obtain ⟨p0, p1, _, _⟩ := parcel4 rdq hq
                  rw [e1] at p0; rw [e2] at p1
                  obtain ⟨pf, hpf⟩ : ∃ pf, N'.ps[i].f = pf := ⟨_, rfl⟩
                  obtain ⟨pt, hpt⟩ : ∃ pt, N'.ps[i].t = pt := ⟨_, rfl⟩
                  have HPF := hid hpf; have HPT := hid hpt
                  have HQF := hid (show qs'[i].f = pf by rw [e1, hpf]); have HQT := hid (show qs'[i].t = pt by rw [e2, hpt])
                  rw [hpf] at p0; rw [hpt] at p1
                  have hi1 : ((i + 1 : Nat) : Int) - 1 = (i : Int) := by omega
                  rw [hi1] at hle ⊢
                  have hin2 : (i : Int) < (M'.n : Int) := by omega
                  have HH := hid (show hasR M'.n (i : Int) = true by unfold hasR; simp; omega)
                  clear hpf hpt e1 e2 rdq
                  go_wp2_with (first
                    | (go_at_call 10; refine ends_c (St.pick 1 sx) hi ?_; rintro qq; rw [HPF.out, HPT.out]; have sy := sx.drewN qq)
                    | (go_at_call 19; refine rhas_c sy ?_; rintro wz sz; rw [HH.out]; have gz := rn_l sz; rw [HGA.out] at gz; have rz := OwnS.rd (St.pick 2 sz); rw [HGA.out] at rz; obtain ⟨z0, z1, _, _⟩ := parcel4 rz hq; rw [HQF.out] at z0; rw [HQT.out] at z1)
                    | (refine wpl_loadA (vs := rnC M') rfl (.tmp 9) (by rfl) agg43 (by rfl) (rnC_len _) sy.rowAll ?_))
                  go_roundw
                  case rel => exact ⟨i + 1 + 1, by omega, by go_num, sz⟩
                  case measure => simp [intOf]; omega
                · have hno : hasB N' ((j : Int) - 1) = false := by unfold hasB; have := HML.out; simp; omega
                  have hnr : hasR M'.n ((j : Int) - 1) = false := by unfold hasR; simp; omega
                  have hj1 : (-1 : Int) ≤ (j : Int) - 1 ∧ (j : Int) - 1 ≤ 4097 := by omega
                  obtain ⟨i, hi⟩ : ∃ i : Int, (j : Int) - 1 = i := ⟨_, rfl⟩
                  rw [hi] at hno hnr hle hj1 ⊢
                  obtain ⟨hj2, hj3⟩ := hj1
                  have HNO := hid hno; have HNR := hid hnr
                  have hwi : IntKind.i64.wrap (i + 1) = i + 1 := IntWalk.i64_in _ (by omega)
                  clear hno hnr
                  go_wp2_with (first
                    | (go_at_call 10; refine ends_no (St.pick 1 sx) HNO.out ?_)
                    | (go_at_call 19; refine rhas_c sx ?_; rintro wz sz; rw [HNR.out])
                    | (refine wpl_loadA (vs := rnC M') rfl (.tmp 9) (by rfl) agg43 (by rfl) (rnC_len _) sx.rowAll ?_))
                  go_roundw
                  case rel => exact ⟨j + 1, by omega, by rw [show ((j + 1 : Nat) : Int) - 1 = i + 1 by omega], sz⟩
                  case measure => simp [intOf]; omega
              · have hje : j = M'.n + 2 := by omega
                subst hje
                have hgt : ¬ ((M'.n + 2 : Nat) : Int) - 1 ≤ (M'.n : Int) := by omega
                go_wp2_with fail
                go_roundw
                case rel => exact ⟨k + 1, N', M', qs', E', by omega, by go_num, hid ⟨HP'.out, sx⟩⟩
                case measure => simp [intOf]; omega
        · have hke : k = nl := by omega
          subst hke
          go_wp2_with fail
          go_loopw [] (fun wx => ∃ (j : Nat) (N : NetV) (M : RN) (qs E : List PV), j + N.ps.length ≤ 200 ∧ Hid (PlAt W b T j N M qs E wx)) (fun wx => leftAt T wx)
          case atStart => exact ⟨k, N, M, qs, E, by have := HP.out.len; omega, hid ⟨HP.out, sr⟩⟩
          case round =>
            obtain ⟨j, N, M, qs, E, hj, hT⟩ := hrel
            obtain ⟨hP, sx⟩ := hT.out
            have gl := rn_l sx
            have hml := hP.ml
            have HP := hid hP
            clear hP hT sr
            by_cases hz : M.n = 0
            · have hl0 : N.ps.length = 0 := by omega
              have HL := hid hl0
              clear hl0 hml
              go_wp2_with (go_at_call 12; refine len_c (St.pick 1 sx) ?_; rw [HL.out])
              exact HK.out _ sx.below
            · have hpos : 0 < N.ps.length := by omega
              have hj40 : j ≤ 4000 := by omega
              have HML := hid hml
              clear hml
              go_wp2_with (first
                | (refine wpl_loadA (vs := rnC M) rfl (.tmp 9) (by rfl) agg43 (by rfl) (rnC_len _) sx.rowAll ?_)
                | (go_at_call 16; refine do1 (L := []) (sx.perm [1, 1, 1]) HP.out hj40 ?_; rintro w8 N' M' qs' E' s8 hP' hN; have HP' := hid hP'; have HN' := hid hN; clear hP' hN)
                | (refine wpl_allocA rfl rfl zero43 s8 ?_; rintro Y w9 s9)
                | (refine wpl_storeA (vs := rnC M') rfl (.tmp 19) (.tmp 163) (by rfl) agg43 (by rfl) (by rfl) (rnC_len _) (rnC_one _) s9 (rnC_len _) ?_; rintro wA sA)
                | (refine wpl_loadA (vs := rnC M') rfl (.tmp 19) (by rfl) agg43 (by rfl) (rnC_len _) sA.rowAll ?_)
                | (refine wpl_storeA (vs := rnC M') rfl (.tmp 9) (.tmp 165) (by rfl) agg43 (by rfl) (by rfl) (rnC_len _) (rnC_one _) (St.pick 4 sA) (rnC_len _) ?_; rintro wB sB))
              have hd : N'.ps.length = N.ps.length - 1 := by
                rcases HN'.out with ⟨q, _, hq, rfl⟩ | ⟨gg, _⟩
                · exact List.length_eraseIdx_of_lt hq
                · rw [show hasB N 0 = true from hasB_yes hpos] at gg; cases gg
              have l1 : leftAt T wr = M.n := by unfold leftAt; rw [gl]
              have l2 : leftAt T wB = M'.n := by unfold leftAt; rw [rn_l sB]
              have m1 := HP'.out.ml
              have m2 := HML.out
              refine ⟨⟨j + 1, N', M', qs', E', by omega, hid ⟨HP'.out, sB.sel [0, 1, 1, 1]⟩⟩, ?_⟩
              rw [l1, l2]; omega
    · have hno : nodes < 2 ∨ 12 < nodes ∨ room < 1 ∨ 4096 < room := by omega
      have HN := hid hno
      clear hnew hno
      go_enter Try.func4, Try.ntmps4
      go_wp2_with (first
        | (go_at_call 6; refine speaks_c s0 ?_; rintro w1 s1)
        | (go_at_call 14; refine few_c s1 rl ?_; rintro w2 s2; rw [HF.out])
        | (go_at_call 7; refine net_new_no HN.out ?_)
        | (go_at_call 15; refine rnnew_no s2 HN.out ?_; rintro w4 s4)
        | (refine wpl_allocA rfl rfl zero43 s4 ?_; rintro T w5 s5)
        | (refine wpl_storeA (vs := rnC noRN) rfl (.tmp 9) (.tmp 39) (by rfl) agg43 (by rfl) (by rfl) (rnC_len _) (rnC_one _) s5 (rnC_len _) ?_; rintro w6 s6))
      exact HK.out _ s6.below
  · have hf : fewB l = false := by simpa using h1
    have HF := hid hf
    clear h1 hf
    go_enter Try.func4, Try.ntmps4
    go_wp2_with (first
      | (go_at_call 6; first
        | (refine speaks_c s2 ?_; rintro w3 s3)
        | (refine speaks_c s0 ?_; rintro w1 s1))
      | (go_at_call 14; refine few_c s1 rl ?_; rintro w2 s2; rw [HF.out]))
    exact HK.out _ s3.below

end Go.Proofs.Ytnibgchgcggfbab
