/- The reference's net: Turn. -/
import Derived.Test.YtnibgchgcggfbabNetRD
import Derived.Test.YtnibgchgcggfbabNetH
namespace Go.Qd
open Go.RowKit

/-- A whole element of an owned slice is written. -/
theorem wpl_storeO {P : Program} {W w : World} {R : List HP} {t : TypeId} {sz n c b o : Nat} {vs cs : List Value} {ops : Array Oper} {rest : List Oper} {q : Oper} {A : Act} {Q : Exit → Act → World → Prop}
    (hgd : q.guard = none) (x y : Operand) (hop : q.op = Op.store t x y) (T : AggT P t sz) {j : Nat} (hx : A.eval x = .pointer (some ⟨b, o + j * sz, none⟩)) (hy : A.eval y = .agg vs.toArray) (hl : vs.length = sz) (h1 : ∀ u ∈ vs, u.oneCell' = true)
    (s : St W w (OwnS sz (some ⟨b, o, none⟩) n c cs :: R)) (hj : j < n) (hK : ∀ w', St W w' (OwnS sz (some ⟨b, o, none⟩) n c (cs.take (j * sz) ++ vs ++ cs.drop ((j + 1) * sz)) :: R) → wpList P ops Q rest (A.put q.dst undef) w') : wpList P ops Q (q :: rest) A w := by
  refine wpList_plain hgd fun K hK' => ?_
  obtain ⟨sp, p, s1⟩ := OwnS.open s
  have s1' : St W w (row b o (cs ++ sp) :: R) := s1
  have hj1 : (j + 1) * sz ≤ n * sz := Nat.mul_le_mul_right _ hj
  have hj2 : (j + 1) * sz = j * sz + sz := by rw [Nat.add_mul, Nat.one_mul]
  have hcl := p.len
  obtain ⟨h2, s2⟩ := run_storeA T hl h1 s1' (p := j * sz) (by rw [List.length_append]; omega)
  have e : splice (cs ++ sp) (j * sz) vs = (cs.take (j * sz) ++ vs ++ cs.drop ((j + 1) * sz)) ++ sp := by
    unfold splice
    rw [hl, ← hj2, List.take_append_of_le_length (by omega), List.drop_append_of_le_length (by omega)]
    simp only [List.append_assoc]
  rw [e] at s2
  unfold Oper.wp
  have h2' : (storeVar t ⟨b, o + j * sz, none⟩ (.agg vs.toArray)).run P w = .ok () (w.setCells b (o + j * sz) vs) := h2
  simp [execOp, hop, hx, hy, Instr.storeAt, Instr.sureAddr, h2', Result.andThen]
  refine hK' _ _ (hK _ (OwnS.close (sp := sp) ⟨?_, p.spare, p.le, p.max, by simp, fun _ => ⟨_, _, rfl⟩, ?_⟩ s2))
  · rw [List.length_append, List.length_append, List.length_take, List.length_drop, hl]; omega
  · intro u hu
    rcases List.mem_append.1 hu with g | g
    · rcases List.mem_append.1 g with g | g
      · exact p.one u (List.mem_of_mem_take g)
      · exact h1 u g
    · exact p.one u (List.mem_of_mem_drop g)

end Go.Qd
namespace Go.Proofs.Ytnibgchgcggfbab
open Go.RowKit Go.Qd

theorem agg54 : AggT Try.prog 54 4 := ⟨⟨_, Try.underlying54, rfl⟩, by kernel_rfl⟩
theorem pcells_take : ∀ (l : List PV) (i : Nat), pcells (l.take i) = (pcells l).take (i * 4)
  | l, 0 => by simp [pcells]
  | [], i + 1 => by simp [pcells]
  | p :: l, i + 1 => by
    rw [List.take_succ_cons]
    show p.cells ++ pcells (l.take i) = (p.cells ++ pcells l).take _
    have e : (i + 1) * 4 = p.cells.length + i * 4 := by rw [show p.cells.length = 4 from rfl]; omega
    rw [pcells_take l i, e, List.take_length_add_append]
theorem pcells_drop : ∀ (l : List PV) (i : Nat), pcells (l.drop i) = (pcells l).drop (i * 4)
  | l, 0 => by simp
  | [], i + 1 => by simp [pcells]
  | p :: l, i + 1 => by
    rw [List.drop_succ_cons]
    show pcells (l.drop i) = (p.cells ++ pcells l).drop _
    have e : (i + 1) * 4 = p.cells.length + i * 4 := by rw [show p.cells.length = 4 from rfl]; omega
    rw [pcells_drop l i, e, List.drop_length_add_append]
theorem pcells_set {l : List PV} {i : Nat} (h : i < l.length) (p : PV) : pcells (l.set i p) = (pcells l).take (i * 4) ++ p.cells ++ (pcells l).drop ((i + 1) * 4) := by
  rw [List.set_eq_take_append_cons_drop, if_pos h, ← pcells_take, ← pcells_drop]
  simp [pcells]

section
variable {W w : World} {R : List HP} {post : Ending → World → Prop} {B : Nat} {N : RN} {ps : List PV}

set_option maxRecDepth 100000 in
set_option maxHeartbeats 1000000 in
theorem rturn_no {i at_ z : Int} (st : St W w R) (h : hasR N.n i = false)
    (K : ∀ w', St W w' R → post (.returned (.tuple #[.agg (rnC N).toArray, .int .i64 3])) w') :
    Calls Try.prog 34 #[.agg (rnC N).toArray, .int .i64 i, .int .i64 at_, .int .u8 z] w post := by
  have HK := hid K; clear K
  have HH := hid h; clear h
  go_enter Try.func34, Try.ntmps34
  go_wp2_with (first
    | (refine wpl_boxA (vs := rnC N) rfl (.tmp 0) rfl rfl st ?_; rintro T w0 s0)
    | (refine wpl_allocA rfl rfl zero43 s0 ?_; rintro E w1 s1)
    | (go_at_call 19; refine rhas_c s1 ?_; rintro w2 s2; rw [HH.out])
    | (refine wpl_loadA (vs := rnC N) rfl (.tmp 4) (by rfl) agg43 (by rfl) (rnC_len _) (St.pick 1 s1).rowAll ?_)
    | (refine wpl_loadA (vs := rnC N) rfl (.tmp 4) (by rfl) agg43 (by rfl) (rnC_len _) (St.pick 1 s2).rowAll ?_)
    | (refine wpl_storeA (vs := rnC N) rfl (.tmp 8) (.tmp 15) (by rfl) agg43 (by rfl) (by rfl) (rnC_len _) (rnC_one _) s2 (rnC_len _) ?_; rintro w3 s3))
  have hL := run_loadA agg43 (rnC_len _) s3.rowAll
  exact bodyPost_ret (v := .tuple #[.agg (rnC N).toArray, .int .i64 3]) (by simp [results, Try.results34, asAddr, hL]) rfl (HK.out _ (s3.dropN 2))

set_option maxRecDepth 100000 in
set_option maxHeartbeats 2000000 in
theorem rturn_same {i : Nat} {at_ z : Int} {p : PV} (st : St W w R) (rds : Rds W R 4 N.a N.n N.c (pcells ps)) (hi : i < N.n) (hil : i < ps.length) (hp : ps[i] = p) (he : turnE p at_ z ≠ 0)
    (K : ∀ w', St W w' R → post (.returned (.tuple #[.agg (rnC N).toArray, .int .i64 (turnE p at_ z)])) w') :
    Calls Try.prog 34 #[.agg (rnC N).toArray, .int .i64 i, .int .i64 at_, .int .u8 z] w post := by
  have HK := hid K; clear K
  have rd := rds w st
  have hle := rd.le
  have hbig := rd.big
  obtain ⟨g, o, hga⟩ := rd.addr (by omega)
  have HGA := hid hga
  have HRD := hid rds
  have hh : hasR N.n (i : Int) = true := by unfold hasR; simp; omega
  have HH := hid hh
  have HP := hid hp
  have hi1 : (i : Int) < (N.n : Int) := by omega
  clear rd hga rds hh hp
  obtain ⟨pf, pt, pa, pn, pc, pbs, psp⟩ := p
  have hcase : (psp = true ∧ turnE ⟨pf, pt, pa, pn, pc, pbs, psp⟩ at_ z = 13) ∨ (psp = false ∧ at_ < 0 ∧ turnE ⟨pf, pt, pa, pn, pc, pbs, psp⟩ at_ z = 2) ∨ (psp = false ∧ ¬ at_ < 0 ∧ (pn : Int) ≤ at_ ∧ turnE ⟨pf, pt, pa, pn, pc, pbs, psp⟩ at_ z = 2) ∨ (psp = false ∧ ¬ at_ < 0 ∧ ¬ (pn : Int) ≤ at_ ∧ z = 0 ∧ turnE ⟨pf, pt, pa, pn, pc, pbs, psp⟩ at_ z = 1) := by
    unfold turnE at he ⊢
    dsimp only at he ⊢
    cases psp with
    | true => exact .inl ⟨rfl, by simp⟩
    | false =>
      by_cases h1 : at_ < 0
      · exact .inr (.inl ⟨rfl, h1, by simp [h1]⟩)
      · by_cases h2 : (pn : Int) ≤ at_
        · exact .inr (.inr (.inl ⟨rfl, h1, h2, by simp [h2]⟩))
        · by_cases h3 : z = 0
          · exact .inr (.inr (.inr ⟨rfl, h1, h2, h3, by simp [h1, h2, h3]⟩))
          · simp [h1, h2, h3] at he
  clear he
  rcases hcase with ⟨rfl, h1⟩ | ⟨rfl, h1, h2⟩ | ⟨rfl, h1, h2, h3⟩ | ⟨rfl, h1, h2, rfl, h3⟩
  · rw [h1] at HK
    clear h1
    go_enter Try.func34, Try.ntmps34
    go_wp2_with (first
      | (refine wpl_boxA (vs := rnC N) rfl (.tmp 0) rfl rfl st ?_; rintro T w0 s0)
      | (refine wpl_allocA rfl rfl zero43 s0 ?_; rintro E w1 s1)
      | (go_at_call 19; refine rhas_c s1 ?_; rintro w2 s2; rw [HH.out]; have g2 := rn_l (St.pick 1 s2); rw [HGA.out] at g2; have r2 := HRD.out _ (s2.dropN 2); rw [HGA.out] at r2; obtain ⟨c0, c1, c2, c3⟩ := parcel4 r2 hil; rw [HP.out] at c0 c1 c2 c3; dsimp only at c0 c1 c2 c3; have s3 := s2.alloc #[.int .i64 pf, .int .i64 pt, .slice pa pn pc, .bool true] 54)
      | (refine wpl_loadA (vs := rnC N) rfl (.tmp 4) (by rfl) agg43 (by rfl) (rnC_len _) (St.pick 1 s1).rowAll ?_)
      | (refine wpl_loadA (vs := rnC N) rfl (.tmp 4) (by rfl) agg43 (by rfl) (rnC_len _) (St.pick 2 s3).rowAll ?_)
      | (refine wpl_storeA (vs := rnC N) rfl (.tmp 8) (.tmp 23) (by rfl) agg43 (by rfl) (by rfl) (rnC_len _) (rnC_one _) (St.pick 1 s3) (rnC_len _) ?_; rintro w4 s4))
    have hL := run_loadA agg43 (rnC_len _) s4.rowAll
    exact bodyPost_ret (v := .tuple #[.agg (rnC N).toArray, .int .i64 13]) (by simp [results, Try.results34, asAddr, hL]) rfl (HK.out _ (s4.dropN 3))
  · rw [h2] at HK
    clear h2
    go_enter Try.func34, Try.ntmps34
    go_wp2_with (first
      | (refine wpl_boxA (vs := rnC N) rfl (.tmp 0) rfl rfl st ?_; rintro T w0 s0)
      | (refine wpl_allocA rfl rfl zero43 s0 ?_; rintro E w1 s1)
      | (go_at_call 19; refine rhas_c s1 ?_; rintro w2 s2; rw [HH.out]; have g2 := rn_l (St.pick 1 s2); rw [HGA.out] at g2; have r2 := HRD.out _ (s2.dropN 2); rw [HGA.out] at r2; obtain ⟨c0, c1, c2, c3⟩ := parcel4 r2 hil; rw [HP.out] at c0 c1 c2 c3; dsimp only at c0 c1 c2 c3; have s3 := s2.alloc #[.int .i64 pf, .int .i64 pt, .slice pa pn pc, .bool false] 54)
      | (refine wpl_loadA (vs := rnC N) rfl (.tmp 4) (by rfl) agg43 (by rfl) (rnC_len _) (St.pick 1 s1).rowAll ?_)
      | (refine wpl_loadA (vs := rnC N) rfl (.tmp 4) (by rfl) agg43 (by rfl) (rnC_len _) (St.pick 2 s3).rowAll ?_)
      | (refine wpl_storeA (vs := rnC N) rfl (.tmp 8) (.tmp 33) (by rfl) agg43 (by rfl) (by rfl) (rnC_len _) (rnC_one _) (St.pick 1 s3) (rnC_len _) ?_; rintro w4 s4))
    have hL := run_loadA agg43 (rnC_len _) s4.rowAll
    exact bodyPost_ret (v := .tuple #[.agg (rnC N).toArray, .int .i64 2]) (by simp [results, Try.results34, asAddr, hL]) rfl (HK.out _ (s4.dropN 3))
  · rw [h3] at HK
    clear h3
    go_enter Try.func34, Try.ntmps34
    go_wp2_with (first
      | (refine wpl_boxA (vs := rnC N) rfl (.tmp 0) rfl rfl st ?_; rintro T w0 s0)
      | (refine wpl_allocA rfl rfl zero43 s0 ?_; rintro E w1 s1)
      | (go_at_call 19; refine rhas_c s1 ?_; rintro w2 s2; rw [HH.out]; have g2 := rn_l (St.pick 1 s2); rw [HGA.out] at g2; have r2 := HRD.out _ (s2.dropN 2); rw [HGA.out] at r2; obtain ⟨c0, c1, c2, c3⟩ := parcel4 r2 hil; rw [HP.out] at c0 c1 c2 c3; dsimp only at c0 c1 c2 c3; have s3 := s2.alloc #[.int .i64 pf, .int .i64 pt, .slice pa pn pc, .bool false] 54)
      | (refine wpl_loadA (vs := rnC N) rfl (.tmp 4) (by rfl) agg43 (by rfl) (rnC_len _) (St.pick 1 s1).rowAll ?_)
      | (refine wpl_loadA (vs := rnC N) rfl (.tmp 4) (by rfl) agg43 (by rfl) (rnC_len _) (St.pick 2 s3).rowAll ?_)
      | (refine wpl_storeA (vs := rnC N) rfl (.tmp 8) (.tmp 33) (by rfl) agg43 (by rfl) (by rfl) (rnC_len _) (rnC_one _) (St.pick 1 s3) (rnC_len _) ?_; rintro w4 s4))
    have hL := run_loadA agg43 (rnC_len _) s4.rowAll
    exact bodyPost_ret (v := .tuple #[.agg (rnC N).toArray, .int .i64 2]) (by simp [results, Try.results34, asAddr, hL]) rfl (HK.out _ (s4.dropN 3))
  · rw [h3] at HK
    clear h3
    go_enter Try.func34, Try.ntmps34
    go_wp2_with (first
      | (refine wpl_boxA (vs := rnC N) rfl (.tmp 0) rfl rfl st ?_; rintro T w0 s0)
      | (refine wpl_allocA rfl rfl zero43 s0 ?_; rintro E w1 s1)
      | (go_at_call 19; refine rhas_c s1 ?_; rintro w2 s2; rw [HH.out]; have g2 := rn_l (St.pick 1 s2); rw [HGA.out] at g2; have r2 := HRD.out _ (s2.dropN 2); rw [HGA.out] at r2; obtain ⟨c0, c1, c2, c3⟩ := parcel4 r2 hil; rw [HP.out] at c0 c1 c2 c3; dsimp only at c0 c1 c2 c3; have s3 := s2.alloc #[.int .i64 pf, .int .i64 pt, .slice pa pn pc, .bool false] 54)
      | (refine wpl_loadA (vs := rnC N) rfl (.tmp 4) (by rfl) agg43 (by rfl) (rnC_len _) (St.pick 1 s1).rowAll ?_)
      | (refine wpl_loadA (vs := rnC N) rfl (.tmp 4) (by rfl) agg43 (by rfl) (rnC_len _) (St.pick 2 s3).rowAll ?_)
      | (refine wpl_storeA (vs := rnC N) rfl (.tmp 8) (.tmp 36) (by rfl) agg43 (by rfl) (by rfl) (rnC_len _) (rnC_one _) (St.pick 1 s3) (rnC_len _) ?_; rintro w4 s4))
    have hL := run_loadA agg43 (rnC_len _) s4.rowAll
    exact bodyPost_ret (v := .tuple #[.agg (rnC N).toArray, .int .i64 1]) (by simp [results, Try.results34, asAddr, hL]) rfl (HK.out _ (s4.dropN 3))

end

end Go.Proofs.Ytnibgchgcggfbab
