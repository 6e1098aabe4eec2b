/- slices.Insert of an int. -/
import Derived.Test.YtbpdchaeakihkaaGreatDel
import Derived.Test.YtbpdchaeakihkaaGreatCopy
import Derived.Laws.Externs
import Derived.IntWalk
namespace Go.Proofs.YtbpdchaeakihkaaGreat
open Go.RowKit Go.Qd

set_option maxRecDepth 100000 in
set_option maxHeartbeats 4000000 in
/-- slices.Insert of one element into an owned slice. -/
theorem insertI_c {W w : World} {R : List HP} {post : Ending → World → Prop} {ao : Option Addr} {n c : Nat} {cs vs : List Value} {i vb : Nat} {A : Array Value} (st : St W w (OwnS 1 ao n c cs :: row vb 0 vs :: R))
    (hv : w.heap[vb]? = some (.cells A 3 (0, 0))) (hA : A.size = vs.length) (hvl : vs.length = 1) (h1v : ∀ u ∈ vs, u.oneCell' = true) (hi : i ≤ n) (hb : (n + 1) * 8 ≤ 140737488355328)
    (K : ∀ ao' c' w', St W w' (OwnS 1 ao' (n + 1) c' (cs.take (i * 1) ++ vs ++ cs.drop (i * 1)) :: R) → post (.returned (.slice ao' (n + 1) c')) w') :
    Calls Tryz.prog 137 #[.slice ao n c, .int .i64 i, .slice (some ⟨vb, 0, none⟩) 1 1] w post := by
  have HK := hid K; clear K
  have hrd := OwnS.rd st
  have hle := hrd.le
  have hmax := hrd.max
  have hmax' := hmax
  unfold maxLen at hmax'
  have hm1 : n + 1 ≤ maxLen := by unfold maxLen; omega
  have hcl := hrd.len
  have rv : RdS w 1 (some ⟨vb, 0, none⟩) 1 1 vs := St.rowRd (St.pick 1 st) (by omega) (by decide) h1v
  obtain ⟨ax0, cx0, _, e0⟩ := run_slice_from Tryz.elem24 ao n c i (n - i) (i := (i : Int)) rfl (by omega)
  by_cases hin : i = n
  · subst hin
    have hz : cs.take (i * 1) ++ vs ++ cs.drop (i * 1) = cs ++ vs := by rw [List.take_of_length_le (by omega), List.drop_eq_nil_of_le (by omega), List.append_nil]
    rw [hz] at HK
    have HV := hid hv; have HL := hid hcl; have HA := hid hA; have HVL := hid hvl
    clear hv hcl hA hvl hz
    go_enter Tryz.func137, Tryz.ntmps137
    go_wp2_with (first
      | (at_builtin; refine wpl_append rfl (.tmp 23) (.tmp 24) rfl Tryz.elem24 rfl rfl st rv (by omega) hm1 ?_; rintro a2 c2 w2 s2))
    exact HK.out _ _ _ (St.pick 1 s2).drop
  · have hlt : i < n := by omega
    obtain ⟨b, o, rfl⟩ := hrd.addr (by omega)
    have hne : ((i : Int) == (n : Int)) = false := by simp; omega
    have hiv : ((n : Int) + 1 - (i : Int)) = ((n + 1 - i : Nat) : Int) := by omega
    have hdl : (cs.drop (i * 1)).length = (n - i) * 1 := by rw [List.length_drop, hcl, ← Nat.sub_mul]
    have h1c : ∀ u ∈ cs.drop (i * 1), u.oneCell' = true := fun u hu => hrd.one u (List.mem_of_mem_drop hu)
    have hoc : ∀ j u, (cs.drop (i * 1))[j]? = some u → w.cell? ((⟨b, o + i * 1, none⟩ : Addr).add j) = some u := fun j u hu => by
      rw [add_plain', Nat.add_assoc]
      rw [List.getElem?_drop] at hu
      exact hrd.at hu
    have hil : i * 1 ≤ cs.length := by rw [hcl]; exact Nat.mul_le_mul_right _ hi
    have hmin : Nat.min (n + 1 - i) (n - i) = n - i := Nat.min_eq_right (by omega)
    by_cases hroom : n + 1 ≤ c
    · obtain ⟨sp, p, s⟩ := OwnS.open st
      have s0 : St W w (row b o (cs ++ sp) :: row vb 0 vs :: R) := s
      have hsp : 1 ≤ sp.length := by rw [p.spare]; exact Nat.le_trans (Nat.le_of_eq (Nat.one_mul _).symm) (Nat.mul_le_mul_right _ (by omega))
      have hcp : 0 < (cs ++ sp).length := by rw [List.length_append]; omega
      have hov : ∀ o' lb cb, (callFunc 167 #[.slice (some ⟨vb, 0, none⟩) 1 1, .slice (some ⟨b, o', none⟩) lb cb]).run Tryz.prog w = .ok (.value (.bool false)) w := fun o' lb cb => by
        rw [run_callFunc_extern Tryz.func167 (by kernel_rfl) (by kernel_rfl) (by kernel_rfl) (e := Extern.SlicesOverlaps.overlaps #[24, 24] #[4]) (by kernel_rfl), run_overlaps_no Tryz.elem24 s0 hv hA hcp o' 1 1 lb cb]
        rfl
      have e1 := run_slice_to Tryz.elem24 (some ⟨b, o, none⟩) n c (n + 1) hroom
      have e1' : ∀ w, (Instr.slice 24 (.slice (some ⟨b, o, none⟩) n c) none (some (.int .i64 ((n : Int) + 1))) none).run Tryz.prog w = .ok (.slice (some ⟨b, o, none⟩) (n + 1) c) w := e1
      have e2 := run_slice_at Tryz.elem24 b o (n + 1) c (i + 1) (n' := n - i) (i := (i : Int) + 1) (by omega) (by omega) (by omega)
      have e3 := run_slice_at Tryz.elem24 b o (n + 1) c i (n' := n + 1 - i) (i := (i : Int)) rfl (by omega) (by omega)
      have hs1 : i * 1 + 1 = (i + 1) * 1 := by rw [Nat.add_mul, Nat.one_mul]
      have hfin := splice_insert (cs := cs) (sp := sp) (vs := vs) (p := i * 1) hil hvl hsp
      rw [hs1] at hfin
      have HF := hid hfin
      have hll : (cs.drop (i * 1)).length = Nat.min (n + 1 - i) (n - i) * 1 := by rw [hmin]; exact hdl
      have hpp : (i + 1) * 1 + (cs.drop (i * 1)).length ≤ (cs ++ sp).length := by
        rw [hdl, List.length_append, hcl, ← Nat.add_mul, show i + 1 + (n - i) = n + 1 from by omega, Nat.add_mul, Nat.one_mul]; omega
      have hsl := splice_len hpp
      have hpp2 : i * 1 + vs.length ≤ (splice (cs ++ sp) ((i + 1) * 1) (cs.drop (i * 1))).length := by rw [hsl, hvl, hs1, List.length_append, hcl]; exact Nat.le_trans (Nat.mul_le_mul_right _ (by omega)) (Nat.le_add_right _ _)
      have HV := hid hv; have HL := hid hcl; have HA := hid hA; have HVL := hid hvl; have HSP := hid p.spare; have HSL := hid hsl; have HDL := hid hdl; have HLL := hid hll; have HMIN := hid hmin
      have hvl1 := hid (show vs.length = Nat.min 1 (n + 1 - i) * 1 by rw [hvl, show Nat.min 1 (n + 1 - i) = 1 from Nat.min_eq_left (by omega)] <;> omega)
      have hw1 : IntKind.i64.wrap ((i : Int) + 1) = (i : Int) + 1 := IntWalk.i64_in _ (by omega)
      clear hv hcl hA hvl hfin hsl hdl hll hmin hs1 hrd rv hiv e1
      go_enter Tryz.func137, Tryz.ntmps137
      go_wp2_with (simp only [hov])
      go_still_tail 8, (by kernel_rfl)
      change wpList _ _ _ _ _ w.drew
      have s1 := s0.drew
      have hoc1 : ∀ j u, (cs.drop (i * 1))[j]? = some u → w.drew.cell? ((⟨b, o + i * 1, none⟩ : Addr).add j) = some u := hoc
      generalize w.drew = wq at s1 hoc1 ⊢
      clear hoc hov hw1
      go_wp2_with (first
        | (refine wpl_copy_row (b := b) (o := o) (p := (i + 1) * 1) (d := n - i) (dc := c - (i + 1)) (m := n + 1 - i) (cx := c - i) rfl (.tmp 73) (.tmp 76) rfl Tryz.elem24 (by first | rfl | simp [Act.eval]) (by first | rfl | simp [Act.eval]) s1 HLL.out hpp hoc1 h1c ?_; rintro w2 s2)
        | (refine wpl_copy_row (b := b) (o := o) (p := i * 1) (d := n + 1 - i) (dc := c - i) (m := 1) (cx := 1) rfl (.tmp 80) (.tmp 81) rfl Tryz.elem24 (by first | rfl | simp [Act.eval]) rfl s2 hvl1.out hpp2 (fun j u hu => by rw [add_plain']; exact (St.pick 1 s2).rowCell hu) h1v ?_; rintro w3 s3))
      refine HK.out _ _ _ (OwnS.close (sp := sp.drop 1) ⟨?_, ?_, by omega, hmax, by simp, fun _ => ⟨_, _, rfl⟩, ?_⟩ ?_)
      · simp only [List.length_append, List.length_take, HDL.out, HVL.out, HL.out, Nat.min_eq_left (Nat.mul_le_mul_right _ hi : i * 1 ≤ n * 1)]
        rw [Nat.sub_mul, Nat.add_mul]; have := Nat.mul_le_mul_right 1 hi; omega
      · rw [List.length_drop, HSP.out, ← Nat.sub_one_mul]; congr 1
      · intro u hu
        simp only [List.mem_append] at hu
        rcases hu with (hu | hu) | hu
        · exact p.one u (List.mem_of_mem_take hu)
        · exact h1v u hu
        · exact p.one u (List.mem_of_mem_drop hu)
      · rw [HF.out] at s3
        exact (St.pick 1 s3).drop
    · obtain rfl : n = c := by omega
      clear e0
      have hti : (cs.take (i * 1)).length = i * 1 := by rw [List.length_take]; exact Nat.min_eq_left hil
      have hin1 : i + (n + 1 - i) = n + 1 := by omega
      have rsh := hrd.short hi
      have e5 := run_slice_to Tryz.elem24 (some ⟨b, o, none⟩) n n i (by omega)
      have e8 := run_slice_at Tryz.elem24 b o n n i (n' := n - i) (i := (i : Int)) rfl (by omega) (by omega)
      obtain ⟨g, c', w1, zs, hrun, s1, hzl, hc1, hc2⟩ := run_append_zeros_st Tryz.elem24 Tryz.underlying3 24 st rsh (k := n + 1 - i) (by omega) (by omega) (by rw [hin1]; exact hb) (by rw [hin1]; exact hm1)
      rw [hin1] at hc1 hrun
      rw [← hiv] at hrun
      have e6 := run_slice_at Tryz.elem24 g 0 (n + 1) c' i (n' := n + 1 - i) (i := (i : Int)) rfl (by omega) (by omega)
      have e7 := run_slice_at Tryz.elem24 g 0 (n + 1) c' (i + 1) (n' := n - i) (i := (i : Int) + 1) (by omega) (by omega) (by omega)
      have hzz : (n + 1 - i) * 1 ≤ zs.length := by rw [hzl]; exact Nat.mul_le_mul_right _ (by omega)
      have hz2 : 1 + (cs.length - i * 1) ≤ zs.length := by
        rw [hcl, ← Nat.sub_mul]; refine Nat.le_trans (Nat.le_of_eq ?_) hzz
        rw [show n + 1 - i = (n - i) + 1 from by omega, Nat.add_mul, Nat.one_mul, Nat.add_comm]
      have hs1 : i * 1 + 1 = (i + 1) * 1 := by rw [Nat.add_mul, Nat.one_mul]
      have hfin := splice_insert2 (cs := cs) (zs := zs) (vs := vs) (p := i * 1) hil hvl hz2
      rw [hs1] at hfin
      have HF := hid hfin
      have hvl1 := hid (show vs.length = Nat.min 1 (n + 1 - i) * 1 by rw [hvl, show Nat.min 1 (n + 1 - i) = 1 from Nat.min_eq_left (by omega)] <;> omega)
      have hpp : i * 1 + vs.length ≤ (cs.take (i * 1) ++ zs).length := by rw [List.length_append, hti, hvl]; have : 1 * 1 ≤ (n + 1 - i) * 1 := Nat.mul_le_mul_right _ (by omega); omega
      have hsl := splice_len hpp
      have hll : (cs.drop (i * 1)).length = Nat.min (n - i) (n - i) * 1 := by rw [hdl, show Nat.min (n - i) (n - i) = n - i from Nat.min_self _]
      have hpp2 : (i + 1) * 1 + (cs.drop (i * 1)).length ≤ (splice (cs.take (i * 1) ++ zs) (i * 1) vs).length := by
        rw [hsl, List.length_append, hti, List.length_drop, ← hs1]; omega
      have hw1 : IntKind.i64.wrap ((i : Int) + 1) = (i : Int) + 1 := IntWalk.i64_in _ (by omega)
      have HV := hid hv; have HL := hid hcl; have HA := hid hA; have HVL := hid hvl; have HSL := hid hsl; have HDL := hid hdl; have HLL := hid hll; have HZL := hid hzl; have HTI := hid hti; have HZ2 := hid hz2
      have h63 : c' ≤ 9223372036854775807 := by unfold maxLen at hc2; omega
      clear hv hcl hA hvl hfin hsl hdl hll hmin hs1 hiv hzl hti rsh rv hzz hz2 hoc
      go_enter Tryz.func137, Tryz.ntmps137
      go_wp2_with (first
        | (at_builtin; refine Lib.wpList_append_run _ rfl (.tmp 34) (.tmp 39) 24 3 rfl _ _ rfl rfl _ _ hrun ?_)
        | (refine wpl_copy_row (b := g) (o := 0) (p := i * 1) (d := n + 1 - i) (dc := c' - i) (m := 1) (cx := 1) rfl (.tmp 43) (.tmp 44) rfl Tryz.elem24 (by first | rfl | simp [Act.eval]) rfl s1 hvl1.out hpp (fun j u hu => by rw [add_plain']; exact (St.pick 2 s1).rowCell hu) h1v ?_; rintro w3 s3))
      go_still_tail 8, (by kernel_rfl)
      change wpList _ _ _ _ _ w3.drew
      have s4 := s3.drew
      generalize w3.drew = w4 at s4 ⊢
      have hoc4 : ∀ j u, (cs.drop (i * 1))[j]? = some u → w4.cell? ((⟨b, o + i * 1, none⟩ : Addr).add j) = some u := fun j u hu => by
        rw [add_plain', Nat.add_assoc]
        rw [List.getElem?_drop] at hu
        exact (OwnS.rd (St.pick 1 s4)).at hu
      go_wp2_with (refine wpl_copy_row (b := g) (o := 0) (p := (i + 1) * 1) (d := n - i) (dc := c' - (i + 1)) (m := n - i) (cx := n - i) rfl (.tmp 50) (.tmp 53) rfl Tryz.elem24 (by first | rfl | simp [Act.eval]) (by first | rfl | simp [Act.eval]) s4 HLL.out hpp2 hoc4 h1c ?_; rintro w5 s5)
      refine HK.out _ _ _ (OwnS.close (sp := zs.drop (1 + (cs.length - i * 1))) ⟨?_, ?_, hc1, hc2, by simp, fun _ => ⟨_, _, rfl⟩, ?_⟩ ?_)
      · simp only [List.length_append, HTI.out, HDL.out, HVL.out]
        rw [Nat.sub_mul, Nat.add_mul]; have := Nat.mul_le_mul_right 1 hi; omega
      · rw [List.length_drop, HZL.out, HL.out, ← Nat.sub_mul, Nat.add_comm, ← Nat.succ_mul, ← Nat.sub_mul]; congr 1; omega
      · intro u hu
        simp only [List.mem_append] at hu
        rcases hu with (hu | hu) | hu
        · exact hrd.one u (List.mem_of_mem_take hu)
        · exact h1v u hu
        · exact hrd.one u (List.mem_of_mem_drop hu)
      · rw [HF.out] at s5
        exact St.takeDrop12 s5


end Go.Proofs.YtbpdchaeakihkaaGreat
