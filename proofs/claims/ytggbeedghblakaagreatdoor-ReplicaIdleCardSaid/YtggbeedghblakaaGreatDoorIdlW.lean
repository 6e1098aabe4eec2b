/- What a replica has changes nothing: the law's walk. Printed by mkIdlW.py. -/
import Derived.Test.YtggbeedghblakaaGreatDoorPlyA
import Derived.Test.YtggbeedghblakaaGreatDoorUtlA
import Derived.Test.YtggbeedghblakaaGreatDoorIdlL
import Derived.Test.YtggbeedghblakaaGreatDoorVals
namespace Go.Proofs.YtggbeedghblakaaGreatDoor
open Go.RowKit Go.Qd RepV

/-- A slice's place and room. -/
def slA : Value → Option Addr
  | .slice a _ _ => a
  | _ => none
def slC : Value → Nat
  | .slice _ _ c => c
  | _ => 0
def optS (d : Bool) (v : Value) (sz n : Nat) (cs : List Value) : HP := if d = true then OwnS sz (slA v) n (slC v) cs else emp

section
variable {P : Program} {Q : Exit → Act → World → Prop} {K : Act → World → Prop} {A : Act} {w : World} {o : Oper}
theorem vals_assign {y : Value} (x : Operand) (hop : o.op = Op.assign x) (hx : A.eval x = y) (hK : K (A.put o.dst y) w) : o.wp P A w K Q := by
  unfold Oper.wp
  simp [execOp, hop, hx]
  exact hK
theorem vals_nil {a : Addr} (x : Operand) (hop : o.op = Op.nilCheck x) (hx : A.eval x = .pointer (some a)) (hK : K (A.put o.dst (.pointer (some a))) w) : o.wp P A w K Q := by
  unfold Oper.wp
  simp [execOp, hop, hx]
  exact hK
theorem vals_field {s f : Nat} {v y : Value} (x : Operand) (hop : o.op = Op.fieldAddr s x f) (hx : A.eval x = v) (hf : (Instr.fieldAt s v f).run P w = .ok y w) (hK : K (A.put o.dst y) w) : o.wp P A w K Q := by
  unfold Oper.wp
  simp [execOp, hop, hx, hf, Result.andThen]
  exact hK
end

def neEG (x y : Operand) (a b : Value) : Sem Value := do eqGuard .neq 39 x y a b; Go.binOp .neq 39 a b
theorem execOp_neE (ρ : Operand → Value) (dst : Option Tmp) (x y : Operand) (r : TypeId) (ty : TypeId) (pos : String) (after : Array Edge) (guard : Option (Nat × Bool)) :
    execOp ρ { dst, op := .binOp .neq 39 x y r, type := ty, pos, after, guard } = (do pure (.value (← neEG x y (ρ x) (ρ y)))) := by simp [execOp, neEG]
theorem run_neEs (x y : Operand) (e : EnV) (w : World) : (neEG x y (.agg e.cells.toArray) (.agg e.cells.toArray)).run Tryz.prog w = .ok (.bool false) w := by
  obtain ⟨k, v, d, sc, ss, ac, az, kp, ag⟩ := e
  unfold neEG EnV.cells
  go_simp
  try simp
theorem run_neE0 (x y : Operand) (w : World) : (neEG x y (.agg EnV.zero.cells.toArray) (.agg #[.string ⟨#[]⟩, .string ⟨#[]⟩, .bool false, .int .i64 0, .int .i64 0, .int .i64 0, .int .i64 0, .int .i64 0, .int .i64 0])).run Tryz.prog w = .ok (.bool false) w := run_neEs x y EnV.zero w
open Classical in
theorem alike_is {a b : EnV} (h : alikeE a b) : alikeB a b = true := by
  obtain ⟨h1, h2, h3, h4, h5, h6, h7, h8⟩ := h
  have e : { a with age := b.age } = b := by cases a; cases b; simp_all
  unfold alikeB eqEn
  exact decide_eq_true e
theorem idl_get {l : List EnV} {i : Nat} (h : i < l.length) : l[i]? = some l[i] := List.getElem?_eq_getElem h

section
attribute [local go_sem ↓] execOp_ldAny execOp_neE
attribute [local go_sem] run_neEs run_neE0
variable {W : World} {post : Ending → World → Prop}
theorem rocheck5_c {w : World} {R : List HP} {o : OptV} (st : St W w R) (K1 : ∀ w', St W w' R → post (.returned (.int .i64 14)) w') (K0 : o.check = 0 → ∀ w', St W w' R → post (.returned (.int .i64 0)) w') : Calls Tryz.prog 25 #[.agg o.cells.toArray] w post := rocheck_c st K0 K1
theorem renC_ld2 {w : World} {b o n c i : Nat} {l : List EnV} (rd : RdS w 9 (some ⟨b, o, none⟩) n c (enC l)) (hi : i < l.length) :
    (loadG 35 (.pointer (some ⟨b, o + i * 9, none⟩))).run Tryz.prog w = .ok (.agg l[i].cells.toArray) w := run_loadG agg_ren rfl (fun _ _ hu => rd.at2 (enC_get hi hu))

set_option maxRecDepth 100000 in
set_option maxHeartbeats 16000000 in
theorem idle_c {a : Option Addr} {n c : Nat} {l : List RAct} {o : OptV} (hf : FirstW W) (rd : RdS W 12 a n c (ractC l))
    (K : ∀ w', Below W.heap.size W w' → post (.returned (.bool true)) w') :
    Calls Tryz.prog 7 #[.agg o.cells.toArray, .slice a n c] W post := by
  have HK := hid K; clear K
  have HF := hid hf; have HRD := hid rd
  have hbig := rd.big
  have HBIG := hid hbig
  clear hf rd
  go_enter Tryz.func7, Tryz.ntmps7
  go_wp2_with (first
    | (refine wpl_boxA (vs := o.cells) rfl (.tmp 0) rfl rfl (St.init W) ?_; rintro O w1 s1)
    | (go_at_call 12; have gg := s4; refine speaks_c HF.out s4 ?_; rintro w9 s9)
    | (go_at_call 12; have gg := s3; refine speaks_c HF.out s3 ?_; rintro w9 s9)
    | (go_at_call 12; refine speaks_c HF.out s1 ?_; rintro w2 s2)
    | (go_at_call 24; refine few12_c (HRD.out.rds _) HBIG.out s2 ?_; rintro (_ | _) w3 hb s3; all_goals (have HFW := hid hb; clear hb; have lO := run_loadG agg_ropt3 (vs := o.cells) rfl s3.rowAll))
    | (go_at_call 25; refine rocheck5_c s3 (fun w4 s4 => ?_) (fun hc w4 s4 => ?_); rotate_left; have lO2 := run_loadG agg_ropt3 (vs := o.cells) rfl s4.rowAll; rotate_left)
    | (go_at_call 37; refine play_c HF.out hc (HRD.out.rds _) HBIG.out s4 ?_; rintro A q w5 HQ s5))
  · exact HK.out _ s9.below
  · exact HK.out _ s9.below
  have s6 : St W w5 (RepA A q :: row O 0 o.cells :: []) := s5
  have HOK := hid HQ.out.ok; have HCO := hid HQ.out.core
  clear s1 s2 s3 s4 s5 lO lO2 HFW hc
  obtain ⟨N, hN⟩ : ∃ N, q.tab.length = N := ⟨_, rfl⟩
  obtain ⟨M, hM⟩ : ∃ M, q.own.length = M := ⟨_, rfl⟩
  have hN4 : N ≤ 4096 := by rw [← hN]; have := HOK.out.len; have := HOK.out.room; omega
  have hM4 : M ≤ 4096 := by rw [← hM]; exact HOK.out.ownL
  have HN := hid hN; have HM := hid hM
  clear hN hM
  try go_wp2_with fail
  try simp only [Act.put, List.setIfInBounds_toArray, List.set_cons_succ, List.set_cons_zero]
  go_cut [6, 7, 8, 9] (fun ea es en eo wx => ∃ ta tc oa oc, ea = .slice ta N tc ∧ es = .int .u64 (q.sum : Nat) ∧ en = .int .i64 q.cnt ∧ eo = .slice oa M oc ∧ St W wx (OwnS 9 ta N tc (ke2 q.tab) :: OwnS 1 oa M oc (kb1 q.own) :: RepA A q :: row O 0 o.cells :: []))
  case first =>
    refine wp_region_vals (fun d v w' => (d 0 = true → v 0 = .pointer (some ⟨A.p, 0, none⟩)) ∧ (d 1 = true → v 1 = .slice (slA (v 1)) N (slC (v 1))) ∧ (d 2 = true → v 2 = .slice (slA (v 2)) N (slC (v 2))) ∧ (d 3 = true → v 3 = .pointer (some ⟨A.p, 0, none⟩)) ∧ (d 4 = true → v 4 = .int .u64 (q.sum : Nat)) ∧ (d 5 = true → v 5 = .pointer (some ⟨A.p, 0, none⟩)) ∧ (d 6 = true → v 6 = .pointer (some ⟨A.p, 0, none⟩)) ∧ (d 7 = true → v 7 = .pointer (some ⟨A.p, 5, none⟩)) ∧ (d 8 = true → v 8 = .pointer (some ⟨A.clk, 0, none⟩)) ∧ (d 9 = true → v 9 = .int .i64 q.cnt) ∧ (d 10 = true → v 10 = .pointer (some ⟨A.p, 0, none⟩)) ∧ (d 11 = true → v 11 = .slice (slA (v 11)) M (slC (v 11))) ∧ (d 12 = true → (d 2 = true ∧ v 12 = v 2)) ∧ (d 13 = true → v 13 = .int .u64 (q.sum : Nat)) ∧ (d 14 = true → v 14 = .int .i64 q.cnt) ∧ (d 15 = true → (d 11 = true ∧ v 15 = v 11)) ∧ St W w' (optS (d 2) (v 2) 9 N (ke2 q.tab) :: optS (d 11) (v 11) 1 M (kb1 q.own) :: optS (d 1) (v 1) 9 N (ke2 q.tab) :: RepA A q :: row O 0 o.cells :: []))
      (by kernel_rfl) (by kernel_rfl) (fun _ => undef) ?_ ?_ ?_
    · exact ⟨fun h => (by cases h), fun h => (by cases h), fun h => (by cases h), fun h => (by cases h), fun h => (by cases h), fun h => (by cases h), fun h => (by cases h), fun h => (by cases h), fun h => (by cases h), fun h => (by cases h), fun h => (by cases h), fun h => (by cases h), fun h => (by cases h), fun h => (by cases h), fun h => (by cases h), fun h => (by cases h), s6.drew.empD.empD.empD⟩
    · rintro z o' ho d v w' ⟨i0, i1, i2, i3, i4, i5, i6, i7, i8, i9, i10, i11, i12, i13, i14, i15, sI⟩ hd he
      match z, ho with
      | 0, ho =>
        cases ho
        exact vals_move (.tmp 5) rfl ((putD_out (by simp)).trans rfl) ⟨_, rfl, fun _ => rfl, i1, i2, i3, i4, i5, i6, i7, i8, i9, i10, i11, i12, i13, i14, i15, sI⟩
      | 1, ho =>
        cases ho
        have d0 : d 0 = true := he ⟨0, .data⟩ (by simp) rfl
        refine vals_call rfl (enters_of Tryz.func23 (by kernel_rfl) rfl) ((putD_in (m := 0) rfl rfl (by decide) d0 (show 35 < 119 by decide)).trans (i0 d0)) ?_
        rw [hd] at sI
        refine entries_c HOK.out (St.pick 3 sI) ?_
        intro a4 n4 c4 w4 hn4 s4
        rw [HN.out] at hn4
        replace hn4 := hn4.symm
        subst hn4
        refine ⟨_, rfl, _, rfl, i0, fun _ => rfl, i2, i3, i4, i5, i6, i7, i8, i9, i10, i11, i12, i13, i14, i15, ?_⟩
        show St W w4 (optS (d 2) (v 2) 9 N (ke2 q.tab) :: optS (d 11) (v 11) 1 M (kb1 q.own) :: OwnS 9 a4 N c4 (ke2 q.tab) :: RepA A q :: row O 0 o.cells :: [])
        exact ((s4.pick 4).drop).perm [2, 2, 0, 0]
      | 2, ho =>
        cases ho
        have d1 : d 1 = true := he ⟨1, .data⟩ (by simp) rfl
        refine vals_call rfl (enters_of Tryz.func38 (by kernel_rfl) rfl) ((putD_in (m := 1) rfl rfl (by decide) d1 (show 36 < 119 by decide)).trans (i1 d1)) ?_
        rw [hd, d1] at sI
        refine tos_c (l := q.tab.map (·.2)) (fun _ s => OwnS.rd (St.pick 2 s)) hN4 sI ?_
        intro a4 c4 w4 s4
        refine ⟨_, rfl, _, rfl, i0, i1, fun _ => rfl, i3, i4, i5, i6, i7, i8, i9, i10, i11, fun h => absurd (i12 h).1 (by rw [hd]; decide), i13, i14, i15, ?_⟩
        show St W w4 (OwnS 9 a4 N c4 (ke2 q.tab) :: optS (d 11) (v 11) 1 M (kb1 q.own) :: optS (d 1) (v 1) 9 N (ke2 q.tab) :: RepA A q :: row O 0 o.cells :: [])
        rw [d1]
        exact (s4.pick 1).drop
      | 3, ho =>
        cases ho
        exact vals_move (.tmp 5) rfl ((putD_out (by simp)).trans rfl) ⟨_, rfl, i0, i1, i2, fun _ => rfl, i4, i5, i6, i7, i8, i9, i10, i11, i12, i13, i14, i15, sI⟩
      | 4, ho =>
        cases ho
        have d3 : d 3 = true := he ⟨3, .data⟩ (by simp) rfl
        refine vals_call rfl (enters_of Tryz.func39 (by kernel_rfl) rfl) ((putD_in (m := 3) rfl rfl (by decide) d3 (show 38 < 119 by decide)).trans (i3 d3)) ?_
        exact rsum_c (St.pick 3 sI) ⟨_, rfl, _, rfl, i0, i1, i2, i3, fun _ => rfl, i5, i6, i7, i8, i9, i10, i11, i12, i13, i14, i15, sI⟩
      | 5, ho =>
        cases ho
        exact vals_move (.tmp 5) rfl ((putD_out (by simp)).trans rfl) ⟨_, rfl, i0, i1, i2, i3, i4, fun _ => rfl, i6, i7, i8, i9, i10, i11, i12, i13, i14, i15, sI⟩
      | 6, ho =>
        cases ho
        have d5 : d 5 = true := he ⟨5, .data⟩ (by simp) rfl
        exact vals_nil (.tmp 40) rfl ((putD_in (m := 5) rfl rfl (by decide) d5 (show 40 < 119 by decide)).trans (i5 d5)) ⟨_, rfl, i0, i1, i2, i3, i4, i5, fun _ => rfl, i7, i8, i9, i10, i11, i12, i13, i14, i15, sI⟩
      | 7, ho =>
        cases ho
        have d6 : d 6 = true := he ⟨6, .data⟩ (by simp) rfl
        exact vals_field (.tmp 41) rfl ((putD_in (m := 6) rfl rfl (by decide) d6 (show 41 < 119 by decide)).trans (i6 d6)) (by kernel_rfl : (Instr.fieldAt 83 (.pointer (some ⟨A.p, 0, none⟩)) 1).run Tryz.prog w' = .ok (.pointer (some ⟨A.p, 5, none⟩)) w') ⟨_, rfl, i0, i1, i2, i3, i4, i5, i6, fun _ => rfl, i8, i9, i10, i11, i12, i13, i14, i15, sI⟩
      | 8, ho =>
        cases ho
        have d7 : d 7 = true := he ⟨7, .data⟩ (by simp) rfl
        exact vals_load (.tmp 42) rfl ((putD_in (m := 7) rfl rfl (by decide) d7 (show 42 < 119 by decide)).trans (i7 d7)) (repLd (St.pick 3 sI)).1 ⟨_, rfl, i0, i1, i2, i3, i4, i5, i6, i7, fun _ => rfl, i9, i10, i11, i12, i13, i14, i15, sI⟩
      | 9, ho =>
        cases ho
        have d8 : d 8 = true := he ⟨8, .data⟩ (by simp) rfl
        refine vals_call rfl (enters_of Tryz.func36 (by kernel_rfl) rfl) ((putD_in (m := 8) rfl rfl (by decide) d8 (show 43 < 119 by decide)).trans (i8 d8)) ?_
        exact now_c (St.pick 1 (RepA.open.1 (St.pick 3 sI))) ⟨_, rfl, _, rfl, i0, i1, i2, i3, i4, i5, i6, i7, i8, fun _ => rfl, i10, i11, i12, i13, i14, i15, sI⟩
      | 10, ho =>
        cases ho
        exact vals_move (.tmp 5) rfl ((putD_out (by simp)).trans rfl) ⟨_, rfl, i0, i1, i2, i3, i4, i5, i6, i7, i8, i9, fun _ => rfl, i11, i12, i13, i14, i15, sI⟩
      | 11, ho =>
        cases ho
        have d10 : d 10 = true := he ⟨10, .data⟩ (by simp) rfl
        refine vals_call rfl (enters_of Tryz.func35 (by kernel_rfl) rfl) ((putD_in (m := 10) rfl rfl (by decide) d10 (show 45 < 119 by decide)).trans (i10 d10)) ?_
        rw [hd] at sI
        refine own_c HOK.out (St.pick 3 sI) ?_
        intro a4 n4 c4 w4 hn4 s4
        rw [HM.out] at hn4
        replace hn4 := hn4.symm
        subst hn4
        refine ⟨_, rfl, _, rfl, i0, i1, i2, i3, i4, i5, i6, i7, i8, i9, i10, fun _ => rfl, i12, i13, i14, fun h => absurd (i15 h).1 (by rw [hd]; decide), ?_⟩
        show St W w4 (optS (d 2) (v 2) 9 N (ke2 q.tab) :: OwnS 1 a4 M c4 (kb1 q.own) :: optS (d 1) (v 1) 9 N (ke2 q.tab) :: RepA A q :: row O 0 o.cells :: [])
        exact ((s4.pick 3).drop).perm [2, 0, 1, 0]
      | 12, ho =>
        cases ho
        have d2 : d 2 = true := he ⟨2, .data⟩ (by simp) rfl
        exact vals_assign (.tmp 37) rfl (putD_in (m := 2) rfl rfl (by decide) d2 (show 37 < 119 by decide)) ⟨_, rfl, i0, i1, i2, i3, i4, i5, i6, i7, i8, i9, i10, i11, fun _ => ⟨d2, rfl⟩, i13, i14, i15, sI⟩
      | 13, ho =>
        cases ho
        have d4 : d 4 = true := he ⟨4, .data⟩ (by simp) rfl
        exact vals_assign (.tmp 39) rfl ((putD_in (m := 4) rfl rfl (by decide) d4 (show 39 < 119 by decide)).trans (i4 d4)) ⟨_, rfl, i0, i1, i2, i3, i4, i5, i6, i7, i8, i9, i10, i11, i12, fun _ => rfl, i14, i15, sI⟩
      | 14, ho =>
        cases ho
        have d9 : d 9 = true := he ⟨9, .data⟩ (by simp) rfl
        exact vals_assign (.tmp 44) rfl ((putD_in (m := 9) rfl rfl (by decide) d9 (show 44 < 119 by decide)).trans (i9 d9)) ⟨_, rfl, i0, i1, i2, i3, i4, i5, i6, i7, i8, i9, i10, i11, i12, i13, fun _ => rfl, i15, sI⟩
      | 15, ho =>
        cases ho
        have d11 : d 11 = true := he ⟨11, .data⟩ (by simp) rfl
        exact vals_assign (.tmp 46) rfl (putD_in (m := 11) rfl rfl (by decide) d11 (show 46 < 119 by decide)) ⟨_, rfl, i0, i1, i2, i3, i4, i5, i6, i7, i8, i9, i10, i11, i12, i13, i14, fun _ => ⟨d11, rfl⟩, sI⟩
      | n + 16, ho => simp at ho
    · rintro v w' ⟨i0, i1, i2, i3, i4, i5, i6, i7, i8, i9, i10, i11, i12, i13, i14, i15, sI⟩
      simp only [putAll, Act.put, List.setIfInBounds_toArray, List.set_cons_succ, List.set_cons_zero]
      have sJ : St W w' (OwnS 9 (slA (v 2)) N (slC (v 2)) (ke2 q.tab) :: OwnS 1 (slA (v 11)) M (slC (v 11)) (kb1 q.own) :: OwnS 9 (slA (v 1)) N (slC (v 1)) (ke2 q.tab) :: RepA A q :: row O 0 o.cells :: []) := sI
      have j12 := (i12 rfl).2.trans (i2 rfl); have j13 := i13 rfl; have j14 := i14 rfl; have j15 := (i15 rfl).2.trans (i11 rfl)
      go_wp2_with fail
      go_meet
      case rel => exact ⟨_, _, _, _, j12, j13, j14, j15, (sJ.pick 2).drop⟩
  case rest =>
  obtain ⟨ta, tc, oa, oc, rfl, rfl, rfl, rfl, s7⟩ := hcut
  clear s6
  go_wp2_with (go_at_call 23; refine entries_c HOK.out (St.pick 2 s7) ?_; rintro ea en ec w8 hne s8; rw [HN.out] at hne; subst hne)
  have s9 : St W w8 (OwnS 9 ea en ec (ke2 q.tab) :: RepA A q :: OwnS 9 ta en tc (ke2 q.tab) :: OwnS 1 oa M oc (kb1 q.own) :: row O 0 o.cells :: []) := s8
  have HI0 : Hid (IdI q q) := hid (IdI.start HOK.out HCO.out.g)
  clear s7 s8
  go_loopw [50] (fun ii wr => ∃ (i : Nat) (q2 : RepV), i ≤ en ∧ ii = .int .i64 i ∧ Hid (IdI q q2) ∧ St W wr (OwnS 9 ea en ec (ke2 q.tab) :: RepA A q2 :: OwnS 9 ta en tc (ke2 q.tab) :: OwnS 1 oa M oc (kb1 q.own) :: row O 0 o.cells :: [])) (fun ii _ => en - (intOf ii).toNat)
  case atStart => exact ⟨0, q, Nat.zero_le _, rfl, HI0, s9⟩
  clear s9
  case round =>
    obtain ⟨i, q2, hi, rfl, HI, sr⟩ := hrel
    by_cases hlt : i < en
    · have hi2 : (i : Int) < (en : Int) := by omega
      have hiA : i < q.tab.length := by rw [HN.out]; exact hlt
      have rdr := OwnS.rd sr
      obtain ⟨g3, o3, rfl⟩ := rdr.addr (by omega)
      have ci := ke2_ld rdr hiA
      obtain ⟨m1, m2, m3, m4⟩ := IdI.step HOK.out HCO.out.g HI.out hiA
      obtain ⟨e, he⟩ : ∃ e, q.tab[i].2 = e := ⟨_, rfl⟩
      rw [he] at ci m1 m2 m3 m4
      have M1 := hid m1; have M2 := hid m2; have M3 := hid m3
      obtain ⟨q3, hq3⟩ : ∃ q3, q2.merge e = q3 := ⟨_, rfl⟩
      rw [hq3] at m4
      have HQ3 := hid hq3; have HI3 := hid m4
      clear rdr hiA he m1 m2 m3 m4 hq3
      go_wp2_with (first
        | (refine wpl_allocA rfl rfl zero_en sr ?_; rintro T w2 s2)
        | (refine wpl_storeA (vs := e.cells) rfl (.tmp 11) (.tmp 53) (by rfl) agg_en (by rfl) (by rfl) rfl (env_one _) s2 rfl ?_; rintro w3 s3; have lT := run_loadG agg_en (vs := e.cells) rfl s3.rowAll)
        | (go_at_call 16; refine merge_c (e := e) HI.out.ok (St.pick 2 s3) ?_; rintro w4 s4; rw [HQ3.out] at s4; rw [M1.out, M2.out, M3.out])
        | (have gg := s4; refine wpl_allocA rfl rfl zero_en s4 ?_; rintro U w6 s6)
        | (have gg := s6; refine wpl_storeA (vs := EnV.zero.cells) rfl (.tmp 13) (.tmp 59) (by rfl) agg_en (by rfl) (by rfl) rfl (env_one _) s6 rfl ?_; rintro w7 s7; have lU := run_loadG agg_en (vs := EnV.zero.cells) rfl s7.rowAll)
        | (refine wpl_build rfl rfl (v := .agg EnV.zero.cells.toArray) (by kernel_rfl) ?_))
      go_roundw
      case rel => exact ⟨i + 1, q3, by omega, by go_num, HI3, s7.sel [3, 1, 2, 2, 2]⟩
      case measure => simp [intOf]; omega
    · have hie : i = en := by omega
      subst hie
      obtain ⟨s9, hs9⟩ : ∃ s, q2.sum = s := ⟨_, rfl⟩
      have hsm := HI.out.sum; have hcn := HI.out.cnt; have how := HI.out.own; have hln : q2.tab.length = i := HI.out.len.trans HN.out
      have HSM := hid hsm; have HCN := hid hcn; have HOW := hid how; have HLN := hid hln
      have hn0 : ((i : Int) != (i : Int)) = false := by simp
      clear hs9 hsm hcn how hln
      go_wp2_with (first
        | (go_at_call 23; refine entries_c HI.out.ok (St.pick 1 sr) ?_; rintro fa fn fc w8 hfn s8; rw [HLN.out] at hfn; subst hfn)
        | (go_at_call 38; refine tos_c (l := q2.tab.map (·.2)) (fun _ s => OwnS.rd s) hN4 s8 ?_; rintro ga gc wA sA; obtain ⟨p0, p1, p2, p3, p4, p5⟩ := repLd (St.pick 2 sA))
        | (go_at_call 39; refine rsum_c (St.pick 2 sA) ?_; rw [HSM.out])
        | (go_at_call 36; refine now_c (St.pick 1 (RepA.open.1 (St.pick 2 sA))) ?_; rw [HCN.out])
        | (go_at_call 35; refine own_c HI.out.ok (St.pick 2 sA) ?_; rintro ha hn hc wB hhn sB; rw [HOW.out] at hhn sB; rw [HM.out] at hhn; subst hhn)
        | (go_at_call 40; refine texts_c (xs := q.own) (fun _ s => OwnS.rd s) (fun _ s => OwnS.rd (St.pick 6 s)) (by omega) sB ?_; rintro wC sC))
      have sD : St W wC (OwnS 9 ga fn gc (ke2 q2.tab) :: OwnS 9 ta fn tc (ke2 q.tab) :: row O 0 o.cells :: []) := sC.sel [2, 4, 5]
      clear sA sB s8 sr p0 p1 p2 p3 p4 p5
      go_loopw [105] (fun ii wr => ∃ (j : Nat), j ≤ fn ∧ ii = .int .i64 j ∧ St W wr (OwnS 9 ga fn gc (ke2 q2.tab) :: OwnS 9 ta fn tc (ke2 q.tab) :: row O 0 o.cells :: [])) (fun ii _ => fn - (intOf ii).toNat)
      case atStart => exact ⟨0, Nat.zero_le _, rfl, sD⟩
      clear sC sD
      case round =>
        obtain ⟨j, hj, rfl, sw⟩ := hrel
        by_cases hlt2 : j < fn
        · have hj2 : (j : Int) < (fn : Int) := by omega
          have hjA : j < q2.tab.length := by rw [HLN.out]; exact hlt2
          have hjB : j < q.tab.length := by rw [HN.out]; exact hlt2
          have ra := OwnS.rd sw
          have rb := OwnS.rd (St.pick 1 sw)
          obtain ⟨g3, o3, rfl⟩ := ra.addr (by omega)
          obtain ⟨g4, o4, rfl⟩ := rb.addr (by omega)
          have hal := alike_is (HI.out.at_ j hjA hjB).2
          have fa : ∀ w', St W w' (OwnS 9 (some ⟨g3, o3, none⟩) fn gc (ke2 q2.tab) :: OwnS 9 (some ⟨g4, o4, none⟩) fn tc (ke2 q.tab) :: row O 0 o.cells :: []) → (loadG 35 (.pointer (some ⟨g3, o3 + j * 9, none⟩))).run Tryz.prog w' = .ok (.agg q2.tab[j].2.cells.toArray) w' := fun w' s => by
            have := renC_ld2 (l := q2.tab.map (·.2)) (OwnS.rd s) (i := j) (by simpa using hjA); simpa using this
          have fb : ∀ w', St W w' (OwnS 9 (some ⟨g3, o3, none⟩) fn gc (ke2 q2.tab) :: OwnS 9 (some ⟨g4, o4, none⟩) fn tc (ke2 q.tab) :: row O 0 o.cells :: []) → (loadG 35 (.pointer (some ⟨g4, o4 + j * 9, none⟩))).run Tryz.prog w' = .ok (.agg q.tab[j].2.cells.toArray) w' := fun w' s => by
            have := renC_ld2 (l := q.tab.map (·.2)) (OwnS.rd (St.pick 1 s)) (i := j) (by simpa using hjB); simpa using this
          obtain ⟨x, hx⟩ : ∃ x, q2.tab[j].2 = x := ⟨_, rfl⟩
          obtain ⟨y, hy⟩ : ∃ y, q.tab[j].2 = y := ⟨_, rfl⟩
          rw [hx, hy] at hal
          simp only [hx] at fa
          simp only [hy] at fb
          have HFA := hid fa; have HFB := hid fb; have HAL := hid hal
          clear fa fb hal hx hy ra rb hjA hjB
          go_wp2_with fail
          have hN6 : Nonempty (Cls (fun w' => St W w' (OwnS 9 (some ⟨g3, o3, none⟩) fn gc (ke2 q2.tab) :: OwnS 9 (some ⟨g4, o4, none⟩) fn tc (ke2 q.tab) :: row O 0 o.cells :: []))) := Cls.inh sw
          have f1 := fun s : Cls (fun w' => St W w' (OwnS 9 (some ⟨g3, o3, none⟩) fn gc (ke2 q2.tab) :: OwnS 9 (some ⟨g4, o4, none⟩) fn tc (ke2 q.tab) :: row O 0 o.cells :: [])) => HFA.out _ s.h
          have f2 := fun s : Cls (fun w' => St W w' (OwnS 9 (some ⟨g3, o3, none⟩) fn gc (ke2 q2.tab) :: OwnS 9 (some ⟨g4, o4, none⟩) fn tc (ke2 q.tab) :: row O 0 o.cells :: [])) => HFB.out _ s.h
          refine wp_region_class (fun w' => St W w' (OwnS 9 (some ⟨g3, o3, none⟩) fn gc (ke2 q2.tab) :: OwnS 9 (some ⟨g4, o4, none⟩) fn tc (ke2 q.tab) :: row O 0 o.cells :: [])) (by kernel_rfl) (by kernel_rfl) sw.drew ?_
          repeat (go_big_quiet_step ((rename_i s; go_at_call 22; refine ralike_c (a := x) (b := y) s.h ?_; rw [HAL.out]; rintro w4 s4; exact Cls.end _ s4)))
          clear hN6 f1 f2
          refine wpQuiet_nil ?_
          rintro ⟨w6, s6⟩
          dsimp only
          go_wp2_with fail
          go_roundw
          case rel => exact ⟨j + 1, by omega, by go_num, s6⟩
          case measure => simp [intOf]; omega
        · have hje : j = fn := by omega
          subst hje
          go_wp2_with fail
          exact HK.out _ sw.below
end
end Go.Proofs.YtggbeedghblakaaGreatDoor
