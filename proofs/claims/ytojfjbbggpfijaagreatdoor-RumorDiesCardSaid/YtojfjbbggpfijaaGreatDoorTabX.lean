/- slices.Insert, slices.Delete, slices.Clone at pairs of tables, marks, bytes, entries. Printed by mkTabX.sh. -/
import Derived.Test.YtojfjbbggpfijaaGreatDoorTabsA
import Derived.Test.YtojfjbbggpfijaaGreatDoorLib
import Derived.StillTailTactics
import Derived.WalkKit
import Derived.WalkSpells
import Derived.WalkLawsBesides
import Derived.BigQuiet
import Derived.Deep.QuietTactic
import Derived.Laws.Externs
import Derived.IntWalk
namespace Go.Proofs.YtojfjbbggpfijaaGreatDoor
open Go.RowKit Go.Qd

theorem Tryz.elem199 : ElemT Tryz.prog 199 198 10 104 := ElemT.mk' Tryz.underlying199 (by kernel_rfl : (Tryz.prog.info? 198).map (fun i => (i.zero, i.size, i.bytes)) = some (some (.agg #[.string ByteArray.empty, .string ByteArray.empty, .string ByteArray.empty, .bool false, .int .i64 0, .int .i64 0, .int .i64 0, .int .i64 0, .int .i64 0, .int .i64 0]), 10, 104)) rfl (by decide) (by simp [Value.cells, Value.oneCell'])

theorem Tryz.elem227 : ElemT Tryz.prog 227 256 2 24 := ElemT.mk' Tryz.underlying227 (by kernel_rfl : (Tryz.prog.info? 256).map (fun i => (i.zero, i.size, i.bytes)) = some (some (.agg #[.string ByteArray.empty, .bool false]), 2, 24)) rfl (by decide) (by simp [Value.cells, Value.oneCell'])

theorem Tryz.elem60 : ElemT Tryz.prog 60 59 3 32 := ElemT.mk' Tryz.underlying60 (by kernel_rfl : (Tryz.prog.info? 59).map (fun i => (i.zero, i.size, i.bytes)) = some (some (.agg #[.int .i64 0, .int .i64 0, .string ByteArray.empty]), 3, 32)) rfl (by decide) (by simp [Value.cells, Value.oneCell'])

theorem Tryz.elem54 : ElemT Tryz.prog 54 67 9 88 := ElemT.mk' Tryz.underlying54 (by kernel_rfl : (Tryz.prog.info? 67).map (fun i => (i.zero, i.size, i.bytes)) = some (some (.agg #[.string ByteArray.empty, .string ByteArray.empty, .bool false, .int .i64 0, .int .i64 0, .int .i64 0, .int .i64 0, .int .i64 0, .int .i64 0]), 9, 88)) rfl (by decide) (by simp [Value.cells, Value.oneCell'])

theorem Tryz.elem163 : ElemT Tryz.prog 163 5 1 1 := ElemT.mk' Tryz.underlying163 (by kernel_rfl : (Tryz.prog.info? 5).map (fun i => (i.zero, i.size, i.bytes)) = some (some (.int .u8 0), 1, 1)) rfl (by decide) (by simp [Value.cells, Value.oneCell'])

theorem Tryz.elem128 : ElemT Tryz.prog 128 9 1 16 := ElemT.mk' Tryz.underlying128 (by kernel_rfl : (Tryz.prog.info? 9).map (fun i => (i.zero, i.size, i.bytes)) = some (some (.string ByteArray.empty), 1, 16)) rfl (by decide) (by simp [Value.cells, Value.oneCell'])

/-- slices.Clone. -/
theorem cloneU_c {W w : World} {R : List HP} {post : Ending → World → Prop} {ao : Option Addr} {n c : Nat} {cs : List Value} (st : St W w R) (rd : RdS w 1 ao n c cs) (hb : n * 1 ≤ 140737488355328)
    (K : ∀ ao' c' w', St W w' (OwnS 1 ao' n c' cs :: R) → post (.returned (.slice ao' n c')) w') : Calls Tryz.prog 157 #[.slice ao n c] w post := by
  have hcmp : ∀ w ao n c, (binOp .eql 163 (.slice ao n c) (.slice none 0 0)).run Tryz.prog w = .ok (.bool ao.isNone) w := fun w ao n c => Lib.run_eql_slice_nil w 163 5 ao n c 0 0 Tryz.underlying163
  have HK := hid K; clear K
  cases ao with
  | none =>
    have hc := rd.nil rfl
    have hn : n = 0 := by have := rd.le; omega
    subst hc; subst hn
    have hz : cs = [] := List.eq_nil_of_length_eq_zero (by have := rd.len; simpa using this)
    subst hz
    go_enter Tryz.func157, Tryz.ntmps157
    go_wp2
    exact HK.out none 0 w (OwnS.none0 st)
  | some a =>
    go_enter Tryz.func157, Tryz.ntmps157
    have s1 : St W (w.alloc (.cells #[] 5)) (OwnS 1 (some ⟨w.heap.size, 0, none⟩) 0 0 [] :: R) := OwnS.empty (st.alloc #[] 5).drop _
    have r1 := rd.alloc (.cells #[] 5)
    have hm : n ≤ maxLen := by unfold maxLen; omega
    go_wp2_with (at_builtin; refine wpl_append rfl _ _ rfl Tryz.elem163 rfl rfl s1 r1 (by omega) (by omega) ?_; rintro ao' c' w' s2; rw [Nat.zero_add, List.nil_append] at s2; rw [Nat.zero_add])
    exact HK.out _ _ _ s2

set_option maxRecDepth 100000 in
set_option maxHeartbeats 4000000 in
/-- slices.Insert of one element into an owned slice. -/
theorem insE_c {W w : World} {R : List HP} {post : Ending → World → Prop} {ao : Option Addr} {n c : Nat} {cs vs : List Value} {i vb : Nat} {A : Array Value} (st : St W w (OwnS 10 ao n c cs :: row vb 0 vs :: R))
    (hv : w.heap[vb]? = some (.cells A 198 (0, 0))) (hA : A.size = vs.length) (hvl : vs.length = 10) (h1v : ∀ u ∈ vs, u.oneCell' = true) (hi : i ≤ n) (hb : (n + 1) * 104 ≤ 140737488355328)
    (K : ∀ ao' c' w', St W w' (OwnS 10 ao' (n + 1) c' (cs.take (i * 10) ++ vs ++ cs.drop (i * 10)) :: R) → post (.returned (.slice ao' (n + 1) c')) w') :
    Calls Tryz.prog 174 #[.slice ao n c, .int .i64 i, .slice (some ⟨vb, 0, none⟩) 1 1] w post := by
  have HK := hid K; clear K
  have hrd := OwnS.rd st
  have hle := hrd.le
  have hmax := hrd.max
  have hmax' := hmax
  unfold maxLen at hmax'
  have hm1 : n + 1 ≤ maxLen := by unfold maxLen; omega
  have hcl := hrd.len
  have rv : RdS w 10 (some ⟨vb, 0, none⟩) 1 1 vs := St.rowRd (St.pick 1 st) (by omega) (by decide) h1v
  obtain ⟨ax0, cx0, _, e0⟩ := run_slice_from Tryz.elem199 ao n c i (n - i) (i := (i : Int)) rfl (by omega)
  by_cases hin : i = n
  · subst hin
    have hz : cs.take (i * 10) ++ vs ++ cs.drop (i * 10) = cs ++ vs := by rw [List.take_of_length_le (by omega), List.drop_eq_nil_of_le (by omega), List.append_nil]
    rw [hz] at HK
    have HV := hid hv; have HL := hid hcl; have HA := hid hA; have HVL := hid hvl
    clear hv hcl hA hvl hz
    go_enter Tryz.func174, Tryz.ntmps174
    go_wp2_with (first
      | (at_builtin; refine wpl_append rfl (.tmp 23) (.tmp 24) rfl Tryz.elem199 rfl rfl st rv (by omega) hm1 ?_; rintro a2 c2 w2 s2))
    exact HK.out _ _ _ (St.pick 1 s2).drop
  · have hlt : i < n := by omega
    obtain ⟨b, o, rfl⟩ := hrd.addr (by omega)
    have hne : ((i : Int) == (n : Int)) = false := by simp; omega
    have hiv : ((n : Int) + 1 - (i : Int)) = ((n + 1 - i : Nat) : Int) := by omega
    have hdl : (cs.drop (i * 10)).length = (n - i) * 10 := by rw [List.length_drop, hcl, ← Nat.sub_mul]
    have h1c : ∀ u ∈ cs.drop (i * 10), u.oneCell' = true := fun u hu => hrd.one u (List.mem_of_mem_drop hu)
    have hoc : ∀ j u, (cs.drop (i * 10))[j]? = some u → w.cell? ((⟨b, o + i * 10, none⟩ : Addr).add j) = some u := fun j u hu => by
      rw [add_plain', Nat.add_assoc]
      rw [List.getElem?_drop] at hu
      exact hrd.at hu
    have hil : i * 10 ≤ cs.length := by rw [hcl]; exact Nat.mul_le_mul_right _ hi
    have hmin : Nat.min (n + 1 - i) (n - i) = n - i := Nat.min_eq_right (by omega)
    by_cases hroom : n + 1 ≤ c
    · obtain ⟨sp, p, s⟩ := OwnS.open st
      have s0 : St W w (row b o (cs ++ sp) :: row vb 0 vs :: R) := s
      have hsp : 10 ≤ sp.length := by rw [p.spare]; exact Nat.le_trans (Nat.le_of_eq (Nat.one_mul _).symm) (Nat.mul_le_mul_right _ (by omega))
      have hcp : 0 < (cs ++ sp).length := by rw [List.length_append]; omega
      have hov : ∀ o' lb cb, (callFunc 203 #[.slice (some ⟨vb, 0, none⟩) 1 1, .slice (some ⟨b, o', none⟩) lb cb]).run Tryz.prog w = .ok (.value (.bool false)) w := fun o' lb cb => by
        rw [run_callFunc_extern Tryz.func203 (by kernel_rfl) (by kernel_rfl) (by kernel_rfl) (e := Extern.SlicesOverlaps.overlaps #[199, 199] #[4]) (by kernel_rfl), run_overlaps_no Tryz.elem199 s0 hv hA hcp o' 1 1 lb cb]
        rfl
      have e1 := run_slice_to Tryz.elem199 (some ⟨b, o, none⟩) n c (n + 1) hroom
      have e1' : ∀ w, (Instr.slice 199 (.slice (some ⟨b, o, none⟩) n c) none (some (.int .i64 ((n : Int) + 1))) none).run Tryz.prog w = .ok (.slice (some ⟨b, o, none⟩) (n + 1) c) w := e1
      have e2 := run_slice_at Tryz.elem199 b o (n + 1) c (i + 1) (n' := n - i) (i := (i : Int) + 1) (by omega) (by omega) (by omega)
      have e3 := run_slice_at Tryz.elem199 b o (n + 1) c i (n' := n + 1 - i) (i := (i : Int)) rfl (by omega) (by omega)
      have hs1 : i * 10 + 10 = (i + 1) * 10 := by rw [Nat.add_mul, Nat.one_mul]
      have hfin := splice_insert (cs := cs) (sp := sp) (vs := vs) (p := i * 10) hil hvl hsp
      rw [hs1] at hfin
      have HF := hid hfin
      have hll : (cs.drop (i * 10)).length = Nat.min (n + 1 - i) (n - i) * 10 := by rw [hmin]; exact hdl
      have hpp : (i + 1) * 10 + (cs.drop (i * 10)).length ≤ (cs ++ sp).length := by
        rw [hdl, List.length_append, hcl, ← Nat.add_mul, show i + 1 + (n - i) = n + 1 from by omega, Nat.add_mul, Nat.one_mul]; omega
      have hsl := splice_len hpp
      have hpp2 : i * 10 + vs.length ≤ (splice (cs ++ sp) ((i + 1) * 10) (cs.drop (i * 10))).length := by rw [hsl, hvl, hs1, List.length_append, hcl]; exact Nat.le_trans (Nat.mul_le_mul_right _ (by omega)) (Nat.le_add_right _ _)
      have HV := hid hv; have HL := hid hcl; have HA := hid hA; have HVL := hid hvl; have HSP := hid p.spare; have HSL := hid hsl; have HDL := hid hdl; have HLL := hid hll; have HMIN := hid hmin
      have hvl1 := hid (show vs.length = Nat.min 1 (n + 1 - i) * 10 by rw [hvl, show Nat.min 1 (n + 1 - i) = 1 from Nat.min_eq_left (by omega)] <;> omega)
      have hw1 : IntKind.i64.wrap ((i : Int) + 1) = (i : Int) + 1 := IntWalk.i64_in _ (by omega)
      clear hv hcl hA hvl hfin hsl hdl hll hmin hs1 hrd rv hiv e1
      go_enter Tryz.func174, Tryz.ntmps174
      go_wp2_with (simp only [hov])
      go_still_tail 8, (by kernel_rfl)
      change wpList _ _ _ _ _ w.drew
      have s1 := s0.drew
      have hoc1 : ∀ j u, (cs.drop (i * 10))[j]? = some u → w.drew.cell? ((⟨b, o + i * 10, none⟩ : Addr).add j) = some u := hoc
      generalize w.drew = wq at s1 hoc1 ⊢
      clear hoc hov hw1
      go_wp2_with (first
        | (refine wpl_copy_row (b := b) (o := o) (p := (i + 1) * 10) (d := n - i) (dc := c - (i + 1)) (m := n + 1 - i) (cx := c - i) rfl (.tmp 73) (.tmp 76) rfl Tryz.elem199 (by first | rfl | simp [Act.eval]) (by first | rfl | simp [Act.eval]) s1 HLL.out hpp hoc1 h1c ?_; rintro w2 s2)
        | (refine wpl_copy_row (b := b) (o := o) (p := i * 10) (d := n + 1 - i) (dc := c - i) (m := 1) (cx := 1) rfl (.tmp 80) (.tmp 81) rfl Tryz.elem199 (by first | rfl | simp [Act.eval]) rfl s2 hvl1.out hpp2 (fun j u hu => by rw [add_plain']; exact (St.pick 1 s2).rowCell hu) h1v ?_; rintro w3 s3))
      refine HK.out _ _ _ (OwnS.close (sp := sp.drop 10) ⟨?_, ?_, by omega, hmax, by simp, fun _ => ⟨_, _, rfl⟩, ?_⟩ ?_)
      · simp only [List.length_append, List.length_take, HDL.out, HVL.out, HL.out, Nat.min_eq_left (Nat.mul_le_mul_right _ hi : i * 10 ≤ n * 10)]
        rw [Nat.sub_mul, Nat.add_mul]; have := Nat.mul_le_mul_right 10 hi; omega
      · rw [List.length_drop, HSP.out, ← Nat.sub_one_mul]; congr 1
      · intro u hu
        simp only [List.mem_append] at hu
        rcases hu with (hu | hu) | hu
        · exact p.one u (List.mem_of_mem_take hu)
        · exact h1v u hu
        · exact p.one u (List.mem_of_mem_drop hu)
      · rw [HF.out] at s3
        exact (St.pick 1 s3).drop
    · obtain rfl : n = c := by omega
      clear e0
      have hti : (cs.take (i * 10)).length = i * 10 := by rw [List.length_take]; exact Nat.min_eq_left hil
      have hin1 : i + (n + 1 - i) = n + 1 := by omega
      have rsh := hrd.short hi
      have e5 := run_slice_to Tryz.elem199 (some ⟨b, o, none⟩) n n i (by omega)
      have e8 := run_slice_at Tryz.elem199 b o n n i (n' := n - i) (i := (i : Int)) rfl (by omega) (by omega)
      obtain ⟨g, c', w1, zs, hrun, s1, hzl, hc1, hc2⟩ := run_append_zeros_st Tryz.elem199 Tryz.underlying3 199 st rsh (k := n + 1 - i) (by omega) (by omega) (by rw [hin1]; exact hb) (by rw [hin1]; exact hm1)
      rw [hin1] at hc1 hrun
      rw [← hiv] at hrun
      have e6 := run_slice_at Tryz.elem199 g 0 (n + 1) c' i (n' := n + 1 - i) (i := (i : Int)) rfl (by omega) (by omega)
      have e7 := run_slice_at Tryz.elem199 g 0 (n + 1) c' (i + 1) (n' := n - i) (i := (i : Int) + 1) (by omega) (by omega) (by omega)
      have hzz : (n + 1 - i) * 10 ≤ zs.length := by rw [hzl]; exact Nat.mul_le_mul_right _ (by omega)
      have hz2 : 10 + (cs.length - i * 10) ≤ zs.length := by
        rw [hcl, ← Nat.sub_mul]; refine Nat.le_trans (Nat.le_of_eq ?_) hzz
        rw [show n + 1 - i = (n - i) + 1 from by omega, Nat.add_mul, Nat.one_mul, Nat.add_comm]
      have hs1 : i * 10 + 10 = (i + 1) * 10 := by rw [Nat.add_mul, Nat.one_mul]
      have hfin := splice_insert2 (cs := cs) (zs := zs) (vs := vs) (p := i * 10) hil hvl hz2
      rw [hs1] at hfin
      have HF := hid hfin
      have hvl1 := hid (show vs.length = Nat.min 1 (n + 1 - i) * 10 by rw [hvl, show Nat.min 1 (n + 1 - i) = 1 from Nat.min_eq_left (by omega)] <;> omega)
      have hpp : i * 10 + vs.length ≤ (cs.take (i * 10) ++ zs).length := by rw [List.length_append, hti, hvl]; have : 1 * 10 ≤ (n + 1 - i) * 10 := Nat.mul_le_mul_right _ (by omega); omega
      have hsl := splice_len hpp
      have hll : (cs.drop (i * 10)).length = Nat.min (n - i) (n - i) * 10 := by rw [hdl, show Nat.min (n - i) (n - i) = n - i from Nat.min_self _]
      have hpp2 : (i + 1) * 10 + (cs.drop (i * 10)).length ≤ (splice (cs.take (i * 10) ++ zs) (i * 10) vs).length := by
        rw [hsl, List.length_append, hti, List.length_drop, ← hs1]; omega
      have hw1 : IntKind.i64.wrap ((i : Int) + 1) = (i : Int) + 1 := IntWalk.i64_in _ (by omega)
      have HV := hid hv; have HL := hid hcl; have HA := hid hA; have HVL := hid hvl; have HSL := hid hsl; have HDL := hid hdl; have HLL := hid hll; have HZL := hid hzl; have HTI := hid hti; have HZ2 := hid hz2
      have h63 : c' ≤ 9223372036854775807 := by unfold maxLen at hc2; omega
      clear hv hcl hA hvl hfin hsl hdl hll hmin hs1 hiv hzl hti rsh rv hzz hz2 hoc
      go_enter Tryz.func174, Tryz.ntmps174
      go_wp2_with (first
        | (at_builtin; refine Lib.wpList_append_run _ rfl (.tmp 34) (.tmp 39) 199 3 rfl _ _ rfl rfl _ _ hrun ?_)
        | (refine wpl_copy_row (b := g) (o := 0) (p := i * 10) (d := n + 1 - i) (dc := c' - i) (m := 1) (cx := 1) rfl (.tmp 43) (.tmp 44) rfl Tryz.elem199 (by first | rfl | simp [Act.eval]) rfl s1 hvl1.out hpp (fun j u hu => by rw [add_plain']; exact (St.pick 2 s1).rowCell hu) h1v ?_; rintro w3 s3))
      go_still_tail 8, (by kernel_rfl)
      change wpList _ _ _ _ _ w3.drew
      have s4 := s3.drew
      generalize w3.drew = w4 at s4 ⊢
      have hoc4 : ∀ j u, (cs.drop (i * 10))[j]? = some u → w4.cell? ((⟨b, o + i * 10, none⟩ : Addr).add j) = some u := fun j u hu => by
        rw [add_plain', Nat.add_assoc]
        rw [List.getElem?_drop] at hu
        exact (OwnS.rd (St.pick 1 s4)).at hu
      go_wp2_with (refine wpl_copy_row (b := g) (o := 0) (p := (i + 1) * 10) (d := n - i) (dc := c' - (i + 1)) (m := n - i) (cx := n - i) rfl (.tmp 50) (.tmp 53) rfl Tryz.elem199 (by first | rfl | simp [Act.eval]) (by first | rfl | simp [Act.eval]) s4 HLL.out hpp2 hoc4 h1c ?_; rintro w5 s5)
      refine HK.out _ _ _ (OwnS.close (sp := zs.drop (10 + (cs.length - i * 10))) ⟨?_, ?_, hc1, hc2, by simp, fun _ => ⟨_, _, rfl⟩, ?_⟩ ?_)
      · simp only [List.length_append, HTI.out, HDL.out, HVL.out]
        rw [Nat.sub_mul, Nat.add_mul]; have := Nat.mul_le_mul_right 10 hi; omega
      · rw [List.length_drop, HZL.out, HL.out, ← Nat.sub_mul, Nat.add_comm, ← Nat.succ_mul, ← Nat.sub_mul]; congr 1; omega
      · intro u hu
        simp only [List.mem_append] at hu
        rcases hu with (hu | hu) | hu
        · exact hrd.one u (List.mem_of_mem_take hu)
        · exact h1v u hu
        · exact hrd.one u (List.mem_of_mem_drop hu)
      · rw [HF.out] at s5
        exact St.takeDrop12 s5

set_option maxRecDepth 100000 in
set_option maxHeartbeats 4000000 in
/-- slices.Insert of one element into an owned slice. -/
theorem insB_c {W w : World} {R : List HP} {post : Ending → World → Prop} {ao : Option Addr} {n c : Nat} {cs vs : List Value} {i vb : Nat} {A : Array Value} (st : St W w (OwnS 2 ao n c cs :: row vb 0 vs :: R))
    (hv : w.heap[vb]? = some (.cells A 256 (0, 0))) (hA : A.size = vs.length) (hvl : vs.length = 2) (h1v : ∀ u ∈ vs, u.oneCell' = true) (hi : i ≤ n) (hb : (n + 1) * 24 ≤ 140737488355328)
    (K : ∀ ao' c' w', St W w' (OwnS 2 ao' (n + 1) c' (cs.take (i * 2) ++ vs ++ cs.drop (i * 2)) :: R) → post (.returned (.slice ao' (n + 1) c')) w') :
    Calls Tryz.prog 196 #[.slice ao n c, .int .i64 i, .slice (some ⟨vb, 0, none⟩) 1 1] w post := by
  have HK := hid K; clear K
  have hrd := OwnS.rd st
  have hle := hrd.le
  have hmax := hrd.max
  have hmax' := hmax
  unfold maxLen at hmax'
  have hm1 : n + 1 ≤ maxLen := by unfold maxLen; omega
  have hcl := hrd.len
  have rv : RdS w 2 (some ⟨vb, 0, none⟩) 1 1 vs := St.rowRd (St.pick 1 st) (by omega) (by decide) h1v
  obtain ⟨ax0, cx0, _, e0⟩ := run_slice_from Tryz.elem227 ao n c i (n - i) (i := (i : Int)) rfl (by omega)
  by_cases hin : i = n
  · subst hin
    have hz : cs.take (i * 2) ++ vs ++ cs.drop (i * 2) = cs ++ vs := by rw [List.take_of_length_le (by omega), List.drop_eq_nil_of_le (by omega), List.append_nil]
    rw [hz] at HK
    have HV := hid hv; have HL := hid hcl; have HA := hid hA; have HVL := hid hvl
    clear hv hcl hA hvl hz
    go_enter Tryz.func196, Tryz.ntmps196
    go_wp2_with (first
      | (at_builtin; refine wpl_append rfl (.tmp 23) (.tmp 24) rfl Tryz.elem227 rfl rfl st rv (by omega) hm1 ?_; rintro a2 c2 w2 s2))
    exact HK.out _ _ _ (St.pick 1 s2).drop
  · have hlt : i < n := by omega
    obtain ⟨b, o, rfl⟩ := hrd.addr (by omega)
    have hne : ((i : Int) == (n : Int)) = false := by simp; omega
    have hiv : ((n : Int) + 1 - (i : Int)) = ((n + 1 - i : Nat) : Int) := by omega
    have hdl : (cs.drop (i * 2)).length = (n - i) * 2 := by rw [List.length_drop, hcl, ← Nat.sub_mul]
    have h1c : ∀ u ∈ cs.drop (i * 2), u.oneCell' = true := fun u hu => hrd.one u (List.mem_of_mem_drop hu)
    have hoc : ∀ j u, (cs.drop (i * 2))[j]? = some u → w.cell? ((⟨b, o + i * 2, none⟩ : Addr).add j) = some u := fun j u hu => by
      rw [add_plain', Nat.add_assoc]
      rw [List.getElem?_drop] at hu
      exact hrd.at hu
    have hil : i * 2 ≤ cs.length := by rw [hcl]; exact Nat.mul_le_mul_right _ hi
    have hmin : Nat.min (n + 1 - i) (n - i) = n - i := Nat.min_eq_right (by omega)
    by_cases hroom : n + 1 ≤ c
    · obtain ⟨sp, p, s⟩ := OwnS.open st
      have s0 : St W w (row b o (cs ++ sp) :: row vb 0 vs :: R) := s
      have hsp : 2 ≤ sp.length := by rw [p.spare]; exact Nat.le_trans (Nat.le_of_eq (Nat.one_mul _).symm) (Nat.mul_le_mul_right _ (by omega))
      have hcp : 0 < (cs ++ sp).length := by rw [List.length_append]; omega
      have hov : ∀ o' lb cb, (callFunc 215 #[.slice (some ⟨vb, 0, none⟩) 1 1, .slice (some ⟨b, o', none⟩) lb cb]).run Tryz.prog w = .ok (.value (.bool false)) w := fun o' lb cb => by
        rw [run_callFunc_extern Tryz.func215 (by kernel_rfl) (by kernel_rfl) (by kernel_rfl) (e := Extern.SlicesOverlaps.overlaps #[227, 227] #[4]) (by kernel_rfl), run_overlaps_no Tryz.elem227 s0 hv hA hcp o' 1 1 lb cb]
        rfl
      have e1 := run_slice_to Tryz.elem227 (some ⟨b, o, none⟩) n c (n + 1) hroom
      have e1' : ∀ w, (Instr.slice 227 (.slice (some ⟨b, o, none⟩) n c) none (some (.int .i64 ((n : Int) + 1))) none).run Tryz.prog w = .ok (.slice (some ⟨b, o, none⟩) (n + 1) c) w := e1
      have e2 := run_slice_at Tryz.elem227 b o (n + 1) c (i + 1) (n' := n - i) (i := (i : Int) + 1) (by omega) (by omega) (by omega)
      have e3 := run_slice_at Tryz.elem227 b o (n + 1) c i (n' := n + 1 - i) (i := (i : Int)) rfl (by omega) (by omega)
      have hs1 : i * 2 + 2 = (i + 1) * 2 := by rw [Nat.add_mul, Nat.one_mul]
      have hfin := splice_insert (cs := cs) (sp := sp) (vs := vs) (p := i * 2) hil hvl hsp
      rw [hs1] at hfin
      have HF := hid hfin
      have hll : (cs.drop (i * 2)).length = Nat.min (n + 1 - i) (n - i) * 2 := by rw [hmin]; exact hdl
      have hpp : (i + 1) * 2 + (cs.drop (i * 2)).length ≤ (cs ++ sp).length := by
        rw [hdl, List.length_append, hcl, ← Nat.add_mul, show i + 1 + (n - i) = n + 1 from by omega, Nat.add_mul, Nat.one_mul]; omega
      have hsl := splice_len hpp
      have hpp2 : i * 2 + vs.length ≤ (splice (cs ++ sp) ((i + 1) * 2) (cs.drop (i * 2))).length := by rw [hsl, hvl, hs1, List.length_append, hcl]; exact Nat.le_trans (Nat.mul_le_mul_right _ (by omega)) (Nat.le_add_right _ _)
      have HV := hid hv; have HL := hid hcl; have HA := hid hA; have HVL := hid hvl; have HSP := hid p.spare; have HSL := hid hsl; have HDL := hid hdl; have HLL := hid hll; have HMIN := hid hmin
      have hvl1 := hid (show vs.length = Nat.min 1 (n + 1 - i) * 2 by rw [hvl, show Nat.min 1 (n + 1 - i) = 1 from Nat.min_eq_left (by omega)] <;> omega)
      have hw1 : IntKind.i64.wrap ((i : Int) + 1) = (i : Int) + 1 := IntWalk.i64_in _ (by omega)
      clear hv hcl hA hvl hfin hsl hdl hll hmin hs1 hrd rv hiv e1
      go_enter Tryz.func196, Tryz.ntmps196
      go_wp2_with (simp only [hov])
      go_still_tail 8, (by kernel_rfl)
      change wpList _ _ _ _ _ w.drew
      have s1 := s0.drew
      have hoc1 : ∀ j u, (cs.drop (i * 2))[j]? = some u → w.drew.cell? ((⟨b, o + i * 2, none⟩ : Addr).add j) = some u := hoc
      generalize w.drew = wq at s1 hoc1 ⊢
      clear hoc hov hw1
      go_wp2_with (first
        | (refine wpl_copy_row (b := b) (o := o) (p := (i + 1) * 2) (d := n - i) (dc := c - (i + 1)) (m := n + 1 - i) (cx := c - i) rfl (.tmp 73) (.tmp 76) rfl Tryz.elem227 (by first | rfl | simp [Act.eval]) (by first | rfl | simp [Act.eval]) s1 HLL.out hpp hoc1 h1c ?_; rintro w2 s2)
        | (refine wpl_copy_row (b := b) (o := o) (p := i * 2) (d := n + 1 - i) (dc := c - i) (m := 1) (cx := 1) rfl (.tmp 80) (.tmp 81) rfl Tryz.elem227 (by first | rfl | simp [Act.eval]) rfl s2 hvl1.out hpp2 (fun j u hu => by rw [add_plain']; exact (St.pick 1 s2).rowCell hu) h1v ?_; rintro w3 s3))
      refine HK.out _ _ _ (OwnS.close (sp := sp.drop 2) ⟨?_, ?_, by omega, hmax, by simp, fun _ => ⟨_, _, rfl⟩, ?_⟩ ?_)
      · simp only [List.length_append, List.length_take, HDL.out, HVL.out, HL.out, Nat.min_eq_left (Nat.mul_le_mul_right _ hi : i * 2 ≤ n * 2)]
        rw [Nat.sub_mul, Nat.add_mul]; have := Nat.mul_le_mul_right 2 hi; omega
      · rw [List.length_drop, HSP.out, ← Nat.sub_one_mul]; congr 1
      · intro u hu
        simp only [List.mem_append] at hu
        rcases hu with (hu | hu) | hu
        · exact p.one u (List.mem_of_mem_take hu)
        · exact h1v u hu
        · exact p.one u (List.mem_of_mem_drop hu)
      · rw [HF.out] at s3
        exact (St.pick 1 s3).drop
    · obtain rfl : n = c := by omega
      clear e0
      have hti : (cs.take (i * 2)).length = i * 2 := by rw [List.length_take]; exact Nat.min_eq_left hil
      have hin1 : i + (n + 1 - i) = n + 1 := by omega
      have rsh := hrd.short hi
      have e5 := run_slice_to Tryz.elem227 (some ⟨b, o, none⟩) n n i (by omega)
      have e8 := run_slice_at Tryz.elem227 b o n n i (n' := n - i) (i := (i : Int)) rfl (by omega) (by omega)
      obtain ⟨g, c', w1, zs, hrun, s1, hzl, hc1, hc2⟩ := run_append_zeros_st Tryz.elem227 Tryz.underlying3 227 st rsh (k := n + 1 - i) (by omega) (by omega) (by rw [hin1]; exact hb) (by rw [hin1]; exact hm1)
      rw [hin1] at hc1 hrun
      rw [← hiv] at hrun
      have e6 := run_slice_at Tryz.elem227 g 0 (n + 1) c' i (n' := n + 1 - i) (i := (i : Int)) rfl (by omega) (by omega)
      have e7 := run_slice_at Tryz.elem227 g 0 (n + 1) c' (i + 1) (n' := n - i) (i := (i : Int) + 1) (by omega) (by omega) (by omega)
      have hzz : (n + 1 - i) * 2 ≤ zs.length := by rw [hzl]; exact Nat.mul_le_mul_right _ (by omega)
      have hz2 : 2 + (cs.length - i * 2) ≤ zs.length := by
        rw [hcl, ← Nat.sub_mul]; refine Nat.le_trans (Nat.le_of_eq ?_) hzz
        rw [show n + 1 - i = (n - i) + 1 from by omega, Nat.add_mul, Nat.one_mul, Nat.add_comm]
      have hs1 : i * 2 + 2 = (i + 1) * 2 := by rw [Nat.add_mul, Nat.one_mul]
      have hfin := splice_insert2 (cs := cs) (zs := zs) (vs := vs) (p := i * 2) hil hvl hz2
      rw [hs1] at hfin
      have HF := hid hfin
      have hvl1 := hid (show vs.length = Nat.min 1 (n + 1 - i) * 2 by rw [hvl, show Nat.min 1 (n + 1 - i) = 1 from Nat.min_eq_left (by omega)] <;> omega)
      have hpp : i * 2 + vs.length ≤ (cs.take (i * 2) ++ zs).length := by rw [List.length_append, hti, hvl]; have : 1 * 2 ≤ (n + 1 - i) * 2 := Nat.mul_le_mul_right _ (by omega); omega
      have hsl := splice_len hpp
      have hll : (cs.drop (i * 2)).length = Nat.min (n - i) (n - i) * 2 := by rw [hdl, show Nat.min (n - i) (n - i) = n - i from Nat.min_self _]
      have hpp2 : (i + 1) * 2 + (cs.drop (i * 2)).length ≤ (splice (cs.take (i * 2) ++ zs) (i * 2) vs).length := by
        rw [hsl, List.length_append, hti, List.length_drop, ← hs1]; omega
      have hw1 : IntKind.i64.wrap ((i : Int) + 1) = (i : Int) + 1 := IntWalk.i64_in _ (by omega)
      have HV := hid hv; have HL := hid hcl; have HA := hid hA; have HVL := hid hvl; have HSL := hid hsl; have HDL := hid hdl; have HLL := hid hll; have HZL := hid hzl; have HTI := hid hti; have HZ2 := hid hz2
      have h63 : c' ≤ 9223372036854775807 := by unfold maxLen at hc2; omega
      clear hv hcl hA hvl hfin hsl hdl hll hmin hs1 hiv hzl hti rsh rv hzz hz2 hoc
      go_enter Tryz.func196, Tryz.ntmps196
      go_wp2_with (first
        | (at_builtin; refine Lib.wpList_append_run _ rfl (.tmp 34) (.tmp 39) 227 3 rfl _ _ rfl rfl _ _ hrun ?_)
        | (refine wpl_copy_row (b := g) (o := 0) (p := i * 2) (d := n + 1 - i) (dc := c' - i) (m := 1) (cx := 1) rfl (.tmp 43) (.tmp 44) rfl Tryz.elem227 (by first | rfl | simp [Act.eval]) rfl s1 hvl1.out hpp (fun j u hu => by rw [add_plain']; exact (St.pick 2 s1).rowCell hu) h1v ?_; rintro w3 s3))
      go_still_tail 8, (by kernel_rfl)
      change wpList _ _ _ _ _ w3.drew
      have s4 := s3.drew
      generalize w3.drew = w4 at s4 ⊢
      have hoc4 : ∀ j u, (cs.drop (i * 2))[j]? = some u → w4.cell? ((⟨b, o + i * 2, none⟩ : Addr).add j) = some u := fun j u hu => by
        rw [add_plain', Nat.add_assoc]
        rw [List.getElem?_drop] at hu
        exact (OwnS.rd (St.pick 1 s4)).at hu
      go_wp2_with (refine wpl_copy_row (b := g) (o := 0) (p := (i + 1) * 2) (d := n - i) (dc := c' - (i + 1)) (m := n - i) (cx := n - i) rfl (.tmp 50) (.tmp 53) rfl Tryz.elem227 (by first | rfl | simp [Act.eval]) (by first | rfl | simp [Act.eval]) s4 HLL.out hpp2 hoc4 h1c ?_; rintro w5 s5)
      refine HK.out _ _ _ (OwnS.close (sp := zs.drop (2 + (cs.length - i * 2))) ⟨?_, ?_, hc1, hc2, by simp, fun _ => ⟨_, _, rfl⟩, ?_⟩ ?_)
      · simp only [List.length_append, HTI.out, HDL.out, HVL.out]
        rw [Nat.sub_mul, Nat.add_mul]; have := Nat.mul_le_mul_right 2 hi; omega
      · rw [List.length_drop, HZL.out, HL.out, ← Nat.sub_mul, Nat.add_comm, ← Nat.succ_mul, ← Nat.sub_mul]; congr 1; omega
      · intro u hu
        simp only [List.mem_append] at hu
        rcases hu with (hu | hu) | hu
        · exact hrd.one u (List.mem_of_mem_take hu)
        · exact h1v u hu
        · exact hrd.one u (List.mem_of_mem_drop hu)
      · rw [HF.out] at s5
        exact St.takeDrop12 s5

set_option maxRecDepth 100000 in
set_option maxHeartbeats 4000000 in
/-- slices.Insert of one element into an owned slice. -/
theorem insM_c {W w : World} {R : List HP} {post : Ending → World → Prop} {ao : Option Addr} {n c : Nat} {cs vs : List Value} {i vb : Nat} {A : Array Value} (st : St W w (OwnS 3 ao n c cs :: row vb 0 vs :: R))
    (hv : w.heap[vb]? = some (.cells A 59 (0, 0))) (hA : A.size = vs.length) (hvl : vs.length = 3) (h1v : ∀ u ∈ vs, u.oneCell' = true) (hi : i ≤ n) (hb : (n + 1) * 32 ≤ 140737488355328)
    (K : ∀ ao' c' w', St W w' (OwnS 3 ao' (n + 1) c' (cs.take (i * 3) ++ vs ++ cs.drop (i * 3)) :: R) → post (.returned (.slice ao' (n + 1) c')) w') :
    Calls Tryz.prog 202 #[.slice ao n c, .int .i64 i, .slice (some ⟨vb, 0, none⟩) 1 1] w post := by
  have HK := hid K; clear K
  have hrd := OwnS.rd st
  have hle := hrd.le
  have hmax := hrd.max
  have hmax' := hmax
  unfold maxLen at hmax'
  have hm1 : n + 1 ≤ maxLen := by unfold maxLen; omega
  have hcl := hrd.len
  have rv : RdS w 3 (some ⟨vb, 0, none⟩) 1 1 vs := St.rowRd (St.pick 1 st) (by omega) (by decide) h1v
  obtain ⟨ax0, cx0, _, e0⟩ := run_slice_from Tryz.elem60 ao n c i (n - i) (i := (i : Int)) rfl (by omega)
  by_cases hin : i = n
  · subst hin
    have hz : cs.take (i * 3) ++ vs ++ cs.drop (i * 3) = cs ++ vs := by rw [List.take_of_length_le (by omega), List.drop_eq_nil_of_le (by omega), List.append_nil]
    rw [hz] at HK
    have HV := hid hv; have HL := hid hcl; have HA := hid hA; have HVL := hid hvl
    clear hv hcl hA hvl hz
    go_enter Tryz.func202, Tryz.ntmps202
    go_wp2_with (first
      | (at_builtin; refine wpl_append rfl (.tmp 23) (.tmp 24) rfl Tryz.elem60 rfl rfl st rv (by omega) hm1 ?_; rintro a2 c2 w2 s2))
    exact HK.out _ _ _ (St.pick 1 s2).drop
  · have hlt : i < n := by omega
    obtain ⟨b, o, rfl⟩ := hrd.addr (by omega)
    have hne : ((i : Int) == (n : Int)) = false := by simp; omega
    have hiv : ((n : Int) + 1 - (i : Int)) = ((n + 1 - i : Nat) : Int) := by omega
    have hdl : (cs.drop (i * 3)).length = (n - i) * 3 := by rw [List.length_drop, hcl, ← Nat.sub_mul]
    have h1c : ∀ u ∈ cs.drop (i * 3), u.oneCell' = true := fun u hu => hrd.one u (List.mem_of_mem_drop hu)
    have hoc : ∀ j u, (cs.drop (i * 3))[j]? = some u → w.cell? ((⟨b, o + i * 3, none⟩ : Addr).add j) = some u := fun j u hu => by
      rw [add_plain', Nat.add_assoc]
      rw [List.getElem?_drop] at hu
      exact hrd.at hu
    have hil : i * 3 ≤ cs.length := by rw [hcl]; exact Nat.mul_le_mul_right _ hi
    have hmin : Nat.min (n + 1 - i) (n - i) = n - i := Nat.min_eq_right (by omega)
    by_cases hroom : n + 1 ≤ c
    · obtain ⟨sp, p, s⟩ := OwnS.open st
      have s0 : St W w (row b o (cs ++ sp) :: row vb 0 vs :: R) := s
      have hsp : 3 ≤ sp.length := by rw [p.spare]; exact Nat.le_trans (Nat.le_of_eq (Nat.one_mul _).symm) (Nat.mul_le_mul_right _ (by omega))
      have hcp : 0 < (cs ++ sp).length := by rw [List.length_append]; omega
      have hov : ∀ o' lb cb, (callFunc 224 #[.slice (some ⟨vb, 0, none⟩) 1 1, .slice (some ⟨b, o', none⟩) lb cb]).run Tryz.prog w = .ok (.value (.bool false)) w := fun o' lb cb => by
        rw [run_callFunc_extern Tryz.func224 (by kernel_rfl) (by kernel_rfl) (by kernel_rfl) (e := Extern.SlicesOverlaps.overlaps #[60, 60] #[4]) (by kernel_rfl), run_overlaps_no Tryz.elem60 s0 hv hA hcp o' 1 1 lb cb]
        rfl
      have e1 := run_slice_to Tryz.elem60 (some ⟨b, o, none⟩) n c (n + 1) hroom
      have e1' : ∀ w, (Instr.slice 60 (.slice (some ⟨b, o, none⟩) n c) none (some (.int .i64 ((n : Int) + 1))) none).run Tryz.prog w = .ok (.slice (some ⟨b, o, none⟩) (n + 1) c) w := e1
      have e2 := run_slice_at Tryz.elem60 b o (n + 1) c (i + 1) (n' := n - i) (i := (i : Int) + 1) (by omega) (by omega) (by omega)
      have e3 := run_slice_at Tryz.elem60 b o (n + 1) c i (n' := n + 1 - i) (i := (i : Int)) rfl (by omega) (by omega)
      have hs1 : i * 3 + 3 = (i + 1) * 3 := by rw [Nat.add_mul, Nat.one_mul]
      have hfin := splice_insert (cs := cs) (sp := sp) (vs := vs) (p := i * 3) hil hvl hsp
      rw [hs1] at hfin
      have HF := hid hfin
      have hll : (cs.drop (i * 3)).length = Nat.min (n + 1 - i) (n - i) * 3 := by rw [hmin]; exact hdl
      have hpp : (i + 1) * 3 + (cs.drop (i * 3)).length ≤ (cs ++ sp).length := by
        rw [hdl, List.length_append, hcl, ← Nat.add_mul, show i + 1 + (n - i) = n + 1 from by omega, Nat.add_mul, Nat.one_mul]; omega
      have hsl := splice_len hpp
      have hpp2 : i * 3 + vs.length ≤ (splice (cs ++ sp) ((i + 1) * 3) (cs.drop (i * 3))).length := by rw [hsl, hvl, hs1, List.length_append, hcl]; exact Nat.le_trans (Nat.mul_le_mul_right _ (by omega)) (Nat.le_add_right _ _)
      have HV := hid hv; have HL := hid hcl; have HA := hid hA; have HVL := hid hvl; have HSP := hid p.spare; have HSL := hid hsl; have HDL := hid hdl; have HLL := hid hll; have HMIN := hid hmin
      have hvl1 := hid (show vs.length = Nat.min 1 (n + 1 - i) * 3 by rw [hvl, show Nat.min 1 (n + 1 - i) = 1 from Nat.min_eq_left (by omega)] <;> omega)
      have hw1 : IntKind.i64.wrap ((i : Int) + 1) = (i : Int) + 1 := IntWalk.i64_in _ (by omega)
      clear hv hcl hA hvl hfin hsl hdl hll hmin hs1 hrd rv hiv e1
      go_enter Tryz.func202, Tryz.ntmps202
      go_wp2_with (simp only [hov])
      go_still_tail 8, (by kernel_rfl)
      change wpList _ _ _ _ _ w.drew
      have s1 := s0.drew
      have hoc1 : ∀ j u, (cs.drop (i * 3))[j]? = some u → w.drew.cell? ((⟨b, o + i * 3, none⟩ : Addr).add j) = some u := hoc
      generalize w.drew = wq at s1 hoc1 ⊢
      clear hoc hov hw1
      go_wp2_with (first
        | (refine wpl_copy_row (b := b) (o := o) (p := (i + 1) * 3) (d := n - i) (dc := c - (i + 1)) (m := n + 1 - i) (cx := c - i) rfl (.tmp 73) (.tmp 76) rfl Tryz.elem60 (by first | rfl | simp [Act.eval]) (by first | rfl | simp [Act.eval]) s1 HLL.out hpp hoc1 h1c ?_; rintro w2 s2)
        | (refine wpl_copy_row (b := b) (o := o) (p := i * 3) (d := n + 1 - i) (dc := c - i) (m := 1) (cx := 1) rfl (.tmp 80) (.tmp 81) rfl Tryz.elem60 (by first | rfl | simp [Act.eval]) rfl s2 hvl1.out hpp2 (fun j u hu => by rw [add_plain']; exact (St.pick 1 s2).rowCell hu) h1v ?_; rintro w3 s3))
      refine HK.out _ _ _ (OwnS.close (sp := sp.drop 3) ⟨?_, ?_, by omega, hmax, by simp, fun _ => ⟨_, _, rfl⟩, ?_⟩ ?_)
      · simp only [List.length_append, List.length_take, HDL.out, HVL.out, HL.out, Nat.min_eq_left (Nat.mul_le_mul_right _ hi : i * 3 ≤ n * 3)]
        rw [Nat.sub_mul, Nat.add_mul]; have := Nat.mul_le_mul_right 3 hi; omega
      · rw [List.length_drop, HSP.out, ← Nat.sub_one_mul]; congr 1
      · intro u hu
        simp only [List.mem_append] at hu
        rcases hu with (hu | hu) | hu
        · exact p.one u (List.mem_of_mem_take hu)
        · exact h1v u hu
        · exact p.one u (List.mem_of_mem_drop hu)
      · rw [HF.out] at s3
        exact (St.pick 1 s3).drop
    · obtain rfl : n = c := by omega
      clear e0
      have hti : (cs.take (i * 3)).length = i * 3 := by rw [List.length_take]; exact Nat.min_eq_left hil
      have hin1 : i + (n + 1 - i) = n + 1 := by omega
      have rsh := hrd.short hi
      have e5 := run_slice_to Tryz.elem60 (some ⟨b, o, none⟩) n n i (by omega)
      have e8 := run_slice_at Tryz.elem60 b o n n i (n' := n - i) (i := (i : Int)) rfl (by omega) (by omega)
      obtain ⟨g, c', w1, zs, hrun, s1, hzl, hc1, hc2⟩ := run_append_zeros_st Tryz.elem60 Tryz.underlying3 60 st rsh (k := n + 1 - i) (by omega) (by omega) (by rw [hin1]; exact hb) (by rw [hin1]; exact hm1)
      rw [hin1] at hc1 hrun
      rw [← hiv] at hrun
      have e6 := run_slice_at Tryz.elem60 g 0 (n + 1) c' i (n' := n + 1 - i) (i := (i : Int)) rfl (by omega) (by omega)
      have e7 := run_slice_at Tryz.elem60 g 0 (n + 1) c' (i + 1) (n' := n - i) (i := (i : Int) + 1) (by omega) (by omega) (by omega)
      have hzz : (n + 1 - i) * 3 ≤ zs.length := by rw [hzl]; exact Nat.mul_le_mul_right _ (by omega)
      have hz2 : 3 + (cs.length - i * 3) ≤ zs.length := by
        rw [hcl, ← Nat.sub_mul]; refine Nat.le_trans (Nat.le_of_eq ?_) hzz
        rw [show n + 1 - i = (n - i) + 1 from by omega, Nat.add_mul, Nat.one_mul, Nat.add_comm]
      have hs1 : i * 3 + 3 = (i + 1) * 3 := by rw [Nat.add_mul, Nat.one_mul]
      have hfin := splice_insert2 (cs := cs) (zs := zs) (vs := vs) (p := i * 3) hil hvl hz2
      rw [hs1] at hfin
      have HF := hid hfin
      have hvl1 := hid (show vs.length = Nat.min 1 (n + 1 - i) * 3 by rw [hvl, show Nat.min 1 (n + 1 - i) = 1 from Nat.min_eq_left (by omega)] <;> omega)
      have hpp : i * 3 + vs.length ≤ (cs.take (i * 3) ++ zs).length := by rw [List.length_append, hti, hvl]; have : 1 * 3 ≤ (n + 1 - i) * 3 := Nat.mul_le_mul_right _ (by omega); omega
      have hsl := splice_len hpp
      have hll : (cs.drop (i * 3)).length = Nat.min (n - i) (n - i) * 3 := by rw [hdl, show Nat.min (n - i) (n - i) = n - i from Nat.min_self _]
      have hpp2 : (i + 1) * 3 + (cs.drop (i * 3)).length ≤ (splice (cs.take (i * 3) ++ zs) (i * 3) vs).length := by
        rw [hsl, List.length_append, hti, List.length_drop, ← hs1]; omega
      have hw1 : IntKind.i64.wrap ((i : Int) + 1) = (i : Int) + 1 := IntWalk.i64_in _ (by omega)
      have HV := hid hv; have HL := hid hcl; have HA := hid hA; have HVL := hid hvl; have HSL := hid hsl; have HDL := hid hdl; have HLL := hid hll; have HZL := hid hzl; have HTI := hid hti; have HZ2 := hid hz2
      have h63 : c' ≤ 9223372036854775807 := by unfold maxLen at hc2; omega
      clear hv hcl hA hvl hfin hsl hdl hll hmin hs1 hiv hzl hti rsh rv hzz hz2 hoc
      go_enter Tryz.func202, Tryz.ntmps202
      go_wp2_with (first
        | (at_builtin; refine Lib.wpList_append_run _ rfl (.tmp 34) (.tmp 39) 60 3 rfl _ _ rfl rfl _ _ hrun ?_)
        | (refine wpl_copy_row (b := g) (o := 0) (p := i * 3) (d := n + 1 - i) (dc := c' - i) (m := 1) (cx := 1) rfl (.tmp 43) (.tmp 44) rfl Tryz.elem60 (by first | rfl | simp [Act.eval]) rfl s1 hvl1.out hpp (fun j u hu => by rw [add_plain']; exact (St.pick 2 s1).rowCell hu) h1v ?_; rintro w3 s3))
      go_still_tail 8, (by kernel_rfl)
      change wpList _ _ _ _ _ w3.drew
      have s4 := s3.drew
      generalize w3.drew = w4 at s4 ⊢
      have hoc4 : ∀ j u, (cs.drop (i * 3))[j]? = some u → w4.cell? ((⟨b, o + i * 3, none⟩ : Addr).add j) = some u := fun j u hu => by
        rw [add_plain', Nat.add_assoc]
        rw [List.getElem?_drop] at hu
        exact (OwnS.rd (St.pick 1 s4)).at hu
      go_wp2_with (refine wpl_copy_row (b := g) (o := 0) (p := (i + 1) * 3) (d := n - i) (dc := c' - (i + 1)) (m := n - i) (cx := n - i) rfl (.tmp 50) (.tmp 53) rfl Tryz.elem60 (by first | rfl | simp [Act.eval]) (by first | rfl | simp [Act.eval]) s4 HLL.out hpp2 hoc4 h1c ?_; rintro w5 s5)
      refine HK.out _ _ _ (OwnS.close (sp := zs.drop (3 + (cs.length - i * 3))) ⟨?_, ?_, hc1, hc2, by simp, fun _ => ⟨_, _, rfl⟩, ?_⟩ ?_)
      · simp only [List.length_append, HTI.out, HDL.out, HVL.out]
        rw [Nat.sub_mul, Nat.add_mul]; have := Nat.mul_le_mul_right 3 hi; omega
      · rw [List.length_drop, HZL.out, HL.out, ← Nat.sub_mul, Nat.add_comm, ← Nat.succ_mul, ← Nat.sub_mul]; congr 1; omega
      · intro u hu
        simp only [List.mem_append] at hu
        rcases hu with (hu | hu) | hu
        · exact hrd.one u (List.mem_of_mem_take hu)
        · exact h1v u hu
        · exact hrd.one u (List.mem_of_mem_drop hu)
      · rw [HF.out] at s5
        exact St.takeDrop12 s5

set_option maxRecDepth 100000 in
set_option maxHeartbeats 1000000 in
/-- slices.Delete of one element of an owned slice. -/
theorem delM_c {W w : World} {R : List HP} {post : Ending → World → Prop} {ao : Option Addr} {n c : Nat} {cs : List Value} {i : Nat} (st : St W w (OwnS 3 ao n c cs :: R)) (hi : i < n) (hb : n * 32 ≤ 140737488355328)
    (K : ∀ ao' c' w', St W w' (OwnS 3 ao' (n - 1) c' (cs.take (i * 3) ++ cs.drop ((i + 1) * 3)) :: R) → post (.returned (.slice ao' (n - 1) c')) w') :
    Calls Tryz.prog 220 #[.slice ao n c, .int .i64 i, .int .i64 (i + 1)] w post := by
  have HK := hid K; clear K
  have hrd := OwnS.rd st
  have hle := hrd.le
  have hmax := hrd.max
  have hmax' := hmax
  unfold maxLen at hmax'
  have hne : ((i : Int) == (i : Int) + 1) = false := by simp; omega
  have e1 := run_slice_to Tryz.elem60 ao n c i (by omega)
  obtain ⟨ax, cx, ht, e2⟩ := run_slice_from Tryz.elem60 ao n c (i + 1) (n - 1 - i) (i := (i : Int) + 1) (by omega) (by omega)
  have hm1 : i + (n - 1 - i) ≤ maxLen := by unfold maxLen; omega
  go_enter Tryz.func220, Tryz.ntmps220
  go_wp2
  go_still_tail 6, (by kernel_rfl)
  have s1 : St W w.drew (OwnS 3 ao i c (cs.take (i * 3)) :: R) := (OwnS.short st (by omega)).drew
  have r1 : RdS w.drew 3 ax (n - 1 - i) cx (cs.drop ((i + 1) * 3)) := (RdS.tail hrd (by omega) ht).same (fun _ => rfl)
  clear e1 e2
  change wpList _ _ _ _ _ w.drew
  generalize w.drew = w2 at s1 r1 ⊢
  have hn : i + (n - 1 - i) = n - 1 := by omega
  have hb2 : (i + (n - 1 - i)) * 32 ≤ 140737488355328 := by omega
  have hr2 : i + (n - 1 - i) ≤ c := by omega
  have HN := hid hn; clear hn
  go_wp2_with (first
    | (at_builtin; refine wpl_append_room rfl _ _ rfl Tryz.elem60 rfl rfl s1 r1 hb2 hm1 hr2 ?_; rintro w3 s3; rw [HN.out] at s3; rw [HN.out])
    | (refine wpl_mid rfl _ _ _ rfl Tryz.elem60 (n - 1) n (n' := 1) rfl rfl rfl (by omega) (by omega) ?_; rintro ay cy ht2)
    | (refine wpl_clear rfl _ rfl Tryz.elem60 rfl s3 (by omega) ht2 ?_; rintro w4 s4))
  exact HK.out _ _ _ s4

end Go.Proofs.YtojfjbbggpfijaaGreatDoor
