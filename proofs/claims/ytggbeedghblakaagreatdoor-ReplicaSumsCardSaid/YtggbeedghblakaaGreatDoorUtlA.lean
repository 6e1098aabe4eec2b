/- What the laws ask of a replica: entries as the document's, texts, sums. -/
import Derived.Test.YtggbeedghblakaaGreatDoorRngs
import Derived.Test.YtggbeedghblakaaGreatDoorLaws
import Derived.Test.YtggbeedghblakaaGreatDoorLogs
import Derived.Deep.RegionLaw
namespace Go.Proofs.YtggbeedghblakaaGreatDoor
open Go.RowKit Go.Qd RepV

section
variable {W w : World} {R : List HP} {post : Ending → World → Prop} {A : RAd} {r : RepV}
/-- The replica's sum. -/
theorem rsum_c (st : St W w (RepA A r :: R)) (K : post (.returned (.int .u64 (r.sum : Nat))) w) : Calls Tryz.prog 39 #[.pointer (some ⟨A.p, 0, none⟩)] w post := by
  have HK := hid K; clear K
  have c6 := repRow (RepA.open.1 st) 6 _ rfl
  go_enter Tryz.func39, Tryz.ntmps39
  go_wp2_with (go_at_call 99; refine sumVal_c c6 ?_)
  exact HK.out

set_option maxRecDepth 100000 in
set_option maxHeartbeats 2000000 in
/-- Are two lists of texts the same? -/
theorem texts_c {a b : Option Addr} {n c m d : Nat} {xs : List KB} (ha : Rds W R 1 a n c (kb1 xs)) (hb : Rds W R 1 b m d (kb1 xs)) (hm : n ≤ 1048576) (st : St W w R) (K : ∀ w', St W w' R → post (.returned (.bool true)) w') :
    Calls Tryz.prog 40 #[.slice a n c, .slice b m d] w post := by
  have HK := hid K; clear K
  have HA := hid ha; have HB := hid hb
  have hL : xs.length = n := by have := (ha _ st).len; rw [kb1_len] at this; omega
  have hM : xs.length = m := by have := (hb _ st).len; rw [kb1_len] at this; omega
  have hmn : m = n := by omega
  subst hmn
  have HL := hid hL
  have h0 : ((m : Int) != (m : Int)) = false := by simp
  clear ha hb hL hM
  go_enter Tryz.func40, Tryz.ntmps40
  go_wp2_with fail
  go_loopw [13] (fun iv wr => ∃ i : Nat, i ≤ m ∧ iv = .int .i64 i ∧ St W wr R) (fun iv _ => m - (intOf iv).toNat)
  case atStart => exact ⟨0, Nat.zero_le _, rfl, st⟩
  case round =>
    obtain ⟨i, hi, rfl, sr⟩ := hrel
    by_cases hlt : i < m
    · have hi2 : (i : Int) < (m : Int) := by omega
      have ra := HA.out _ sr
      have rb := HB.out _ sr
      obtain ⟨g, o, rfl⟩ := ra.addr (by omega)
      obtain ⟨g2, o2, rfl⟩ := rb.addr (by omega)
      obtain ⟨x, hx⟩ : ∃ x, (kb1 xs)[i]? = some (.string x) := by
        have h1 : i < xs.length := by rw [HL.out]; exact hlt
        exact ⟨_, by unfold kb1; rw [List.getElem?_map, List.getElem?_eq_getElem h1]; rfl⟩
      have c1 := ra.at hx
      have c2 := rb.at hx
      clear ra rb hx
      go_wp2_with (go_quiet (fail))
      go_roundw
      case rel => exact ⟨i + 1, by omega, by go_num, sr.drewN _⟩
      case measure => simp [intOf]; omega
    · have hie : i = m := by omega
      subst hie
      go_wp2_with fail
      exact HK.out _ sr
end

/-! Lists of entries. -/
def tosK (l : List EnV) : Nat := (l.map hashE).sum % 18446744073709551616
theorem sum_is (l : List KE) : tosK (l.map (·.2)) = sumT l := by unfold tosK sumT sumN; rw [List.map_map]; rfl

theorem elemRE : ElemT Tryz.prog 22 35 9 88 := ElemT.mk' Tryz.underlying22 (by kernel_rfl : (Tryz.prog.info? 35).map (fun i => (i.zero, i.size, i.bytes)) = some (some (.agg en0.cells.toArray), 9, 88)) rfl (by decide) (by simp [Value.cells, Value.oneCell', EnV.cells, en0])
def bsRG (x : Value) : Sem Value := Instr.buildSlice 22 1 #[(0, x)]
theorem execOp_bsR (ρ : Operand → Value) (dst : Option Tmp) (a : Operand) (ty : TypeId) (pos : String) (after : Array Edge) (guard : Option (Nat × Bool)) :
    execOp ρ { dst, op := .buildSlice 22 1 #[(0, a)], type := ty, pos, after, guard } = (do pure (.value (← bsRG (ρ a)))) := by simp [execOp, bsRG]
theorem run_bsR (x : EnV) (w : World) : (bsRG (.agg x.cells.toArray)).run Tryz.prog w = .ok (.slice (some ⟨w.heap.size, 0, none⟩) 1 1) (w.alloc (.cells x.cells.toArray 35)) := by kernel_rfl
theorem enC_one (l : List EnV) : ∀ u ∈ enC l, u.oneCell' = true := fun u hu => by
  unfold enC at hu
  obtain ⟨cs, h1, h2⟩ := List.mem_flatten.1 hu
  obtain ⟨x, _, rfl⟩ := List.mem_map.1 h1
  exact env_one x u h2
theorem enC_snoc2 (l : List EnV) (x : EnV) : enC (l ++ [x]) = enC l ++ x.cells := by simp [enC]

section
attribute [local go_sem ↓] execOp_ldAny execOp_bsR
attribute [local go_sem] run_bsR
variable {W w : World} {R : List HP} {post : Ending → World → Prop}
set_option maxRecDepth 100000 in
set_option maxHeartbeats 4000000 in
/-- Entries as the document's. -/
theorem tos_c {a : Option Addr} {n c : Nat} {l : List EnV} (rd : Rds W R 9 a n c (enC l)) (hn : n ≤ 4096) (st : St W w R) (K : ∀ a' c' w', St W w' (OwnS 9 a' n c' (enC l) :: R) → post (.returned (.slice a' n c')) w') :
    Calls Tryz.prog 38 #[.slice a n c] w post := by
  have HK := hid K; clear K
  have HRD := hid rd
  have HN : Hid (l.length = n) := hid (enC_ln (rd _ st))
  have s0 : St W (w.alloc (.cells #[] 35)) (OwnS 9 (some ⟨w.heap.size, 0, none⟩) 0 0 (enC []) :: R) := OwnS.empty (st.alloc #[] 35).drop _
  clear rd
  go_enter Tryz.func38, Tryz.ntmps38
  go_wp2_with fail
  go_loopw [3, 9] (fun oo ii wr => ∃ (i : Nat) (oa : Option Addr) (oc : Nat), i ≤ n ∧ oo = .slice oa i oc ∧ ii = .int .i64 i ∧ St W wr (OwnS 9 oa i oc (enC (l.take i)) :: R)) (fun _ ii _ => n - (intOf ii).toNat)
  case atStart => exact ⟨0, _, _, Nat.zero_le _, rfl, rfl, s0⟩
  case round =>
    obtain ⟨i, oa, oc, hi, rfl, rfl, sr⟩ := hrel
    by_cases hlt : i < n
    · have hi2 : (i : Int) < (n : Int) := by omega
      have hiA : i < l.length := by rw [HN.out]; exact hlt
      have rdr := HRD.out.cons _ sr
      obtain ⟨g3, o3, rfl⟩ := rdr.addr (by omega)
      have ci := enC_ld rdr hiA
      have hts : l.take (i + 1) = l.take i ++ [l[i]] := List.take_succ_eq_append_getElem hiA
      obtain ⟨x, hx⟩ : ∃ x, l[i] = x := ⟨_, rfl⟩
      rw [hx] at ci hts
      have HTS := hid hts
      have hb1 : (i + 1) * 88 ≤ 140737488355328 := by omega
      have hb2 : i + 1 ≤ maxLen := by unfold maxLen; omega
      clear hx rdr hiA hts
      go_wp2_with (first
        | (refine wpl_allocA rfl rfl zero_en sr ?_; rintro T w2 s2)
        | (refine wpl_storeA (vs := x.cells) rfl (.tmp 5) (.tmp 12) (by rfl) agg_en (by rfl) (by rfl) rfl (env_one _) s2 rfl ?_; rintro w3 s3; have l3 := run_loadG agg_en (vs := x.cells) rfl s3.rowAll)
        | (go_at_call 20; refine enTo_c (e := x) s3 ?_; rintro w4 s4
           have s5 := s4.alloc x.cells.toArray 35
           have r5 := St.rowRd (sz := 9) (n := 1) s5 rfl (by decide) (env_one x)
           have s6 := St.pick 2 s5)
        | (at_builtin; refine wpl_append rfl (.tmp 13) (.tmp 16) rfl elemRE rfl rfl s6 r5 hb1 hb2 ?_; rintro a8 c8 w8 s8))
      go_roundw
      case rel => exact ⟨i + 1, a8, c8, by omega, rfl, by go_num, by rw [HTS.out, enC_snoc2]; exact (((s8.pick 1).drop).pick 1).drop⟩
      case measure => simp [intOf]; omega
    · have hie : i = n := by omega
      subst hie
      go_wp2_with fail
      rw [List.take_of_length_le (by rw [HN.out]; exact Nat.le_refl _)] at sr
      exact HK.out _ _ _ sr
end

section
attribute [local go_sem ↓] execOp_ldAny
variable {W w : World} {R : List HP} {post : Ending → World → Prop}
set_option maxRecDepth 100000 in
set_option maxHeartbeats 4000000 in
/-- The sum of entries. -/
theorem sumsOf_c {a : Option Addr} {n c : Nat} {l : List EnV} (rd : Rds W R 9 a n c (enC l)) (hn : n ≤ 4096) (st : St W w R) (K : ∀ w', St W w' R → post (.returned (.int .u64 (tosK l : Nat))) w') :
    Calls Tryz.prog 57 #[.slice a n c] w post := by
  have HK := hid K; clear K
  have HRD := hid rd
  have HN : Hid (l.length = n) := hid (enC_ln (rd _ st))
  clear rd
  go_enter Tryz.func57, Tryz.ntmps57
  go_wp2_with (refine wpl_allocA (vs := [.int .u64 0]) rfl rfl (fun _ => by kernel_rfl) st ?_; rintro S w1 s1)
  go_loopw [8] (fun ii wr => ∃ (i : Nat), i ≤ n ∧ ii = .int .i64 i ∧ St W wr (row S 0 [.int .u64 (tosK (l.take i) : Nat)] :: R)) (fun ii _ => n - (intOf ii).toNat)
  case atStart => exact ⟨0, Nat.zero_le _, rfl, s1⟩
  case round =>
    obtain ⟨i, hi, rfl, sr⟩ := hrel
    by_cases hlt : i < n
    · have hi2 : (i : Int) < (n : Int) := by omega
      have hiA : i < l.length := by rw [HN.out]; exact hlt
      have rdr := HRD.out.cons _ sr
      obtain ⟨g3, o3, rfl⟩ := rdr.addr (by omega)
      have ci := enC_ld rdr hiA
      have hts : tosK (l.take (i + 1)) = (tosK (l.take i) + hashE l[i]) % 18446744073709551616 := by
        unfold tosK
        rw [List.take_succ_eq_append_getElem hiA, List.map_append, List.sum_append]
        simp only [List.map_cons, List.map_nil, List.sum_cons, List.sum_nil]
        omega
      obtain ⟨x, hx⟩ : ∃ x, l[i] = x := ⟨_, rfl⟩
      rw [hx] at ci hts
      have HTS := hid hts
      obtain ⟨z, hz⟩ : ∃ z, tosK (l.take i) = z := ⟨_, rfl⟩
      rw [hz] at sr hts
      have HZ := hid hz
      clear hx rdr hiA hts hz
      go_wp2_with (first
        | (refine wpl_allocA rfl rfl zero_en sr ?_; rintro T w2 s2)
        | (refine wpl_storeA (vs := x.cells) rfl (.tmp 5) (.tmp 11) (by rfl) agg_en (by rfl) (by rfl) rfl (env_one _) s2 rfl ?_; rintro w3 s3; have l3 := run_loadG agg_en (vs := x.cells) rfl s3.rowAll)
        | (go_at_call 113; refine sumAdd_c (n := z) rfl (St.pick 1 s3) ?_; rintro v4 w4 s4))
      go_roundw
      case rel => exact ⟨i + 1, by omega, by go_num, by rw [HTS.out, HZ.out]; exact (s4.pick 1).drop⟩
      case measure => simp [intOf]; omega
    · have hie : i = n := by omega
      subst hie
      have c0 := boxOne sr
      have hfull : l.take i = l := List.take_of_length_le (by rw [HN.out]; exact Nat.le_refl _)
      rw [hfull] at c0
      obtain ⟨z, hz⟩ : ∃ z, tosK l = z := ⟨_, rfl⟩
      have HK2 := hid (HK.out _ sr.drop)
      rw [hz] at c0 HK2
      clear hz
      go_wp2_with (go_at_call 99; refine sumVal_c c0 ?_)
      exact HK2.out
end
end Go.Proofs.YtggbeedghblakaaGreatDoor
