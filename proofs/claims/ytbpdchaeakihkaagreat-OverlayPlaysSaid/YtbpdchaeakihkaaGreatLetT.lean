/- Letters of the program's, without marks and entries, as the document's. -/
import Derived.Test.YtbpdchaeakihkaaGreatToB
import Derived.Test.YtbpdchaeakihkaaGreatLetS
import Derived.Test.YtbpdchaeakihkaaGreatBeatX
namespace Go.Proofs.YtbpdchaeakihkaaGreat
open Go.RowKit Go.Qd

/-- A letter of the document's, without marks and entries. -/
def LetV.bare (x : LetV) : LetV := ⟨x.to, x.m.bare2⟩
attribute [local go_sem ↓] execOp_load60 execOp_load58 execOp_buildLT execOp_bsLT
attribute [local go_sem] run_buildLT run_bsLT

theorem letLd {t : TypeId} (agg : AggT Tryz.prog t 13) {w : World} {b o n c i : Nat} {L : List LetV} (rd : RdS w 13 (some ⟨b, o, none⟩) n c (letC L)) (hi : i < L.length) :
    (loadG t (.pointer (some ⟨b, o + i * 13, none⟩))).run Tryz.prog w = .ok (.agg L[i].cells.toArray) w := run_loadG agg rfl (fun j u hu => by
  have e : (letC L)[i * 13 + j]? = some u := by
    rw [← List.getElem?_drop, letC_at hi, List.getElem?_append_left]
    · exact hu
    · rcases Nat.lt_or_ge j L[i].cells.length with g | g
      · exact g
      · rw [List.getElem?_eq_none g] at hu; cases hu
  exact rd.at2 e)
theorem letC_snocM {L : List LetV} {i : Nat} (h : i < L.length) : letC ((L.take (i + 1)).map LetV.bare) = letC ((L.take i).map LetV.bare) ++ (L[i].bare).cells := by
  rw [List.take_succ_eq_append_getElem h, List.map_append, List.map_cons, List.map_nil, letC_snoc]

section
variable {W w : World} {R : List HP} {post : Ending → World → Prop}

/-- The loads of a letter in memory. -/
theorem letP {P : Nat} {x : LetV} (s : St W w (row P 0 x.cells :: R)) : w.cell? ⟨P, 0, none⟩ = some (.int .i64 x.to) ∧ (loadG 58 (.pointer (some ⟨P, 1, none⟩))).run Tryz.prog w = .ok (.agg x.m.cells.toArray) w := by
  have c0 := s.rowCell (i := 0) (v := .int .i64 x.to) rfl
  exact ⟨c0, run_loadG (o := 0 + 1) agg58 rfl (St.rowPart s 1 (xs := x.m.cells) (ys := []) (by rw [List.append_nil]; rfl))⟩

set_option maxRecDepth 100000 in
set_option maxHeartbeats 16000000 in
theorem letters_c {la : Option Addr} {ln lc : Nat} {L : List LetV} (st : St W w (OwnS 13 la ln lc (letC L) :: R)) (hz : ∀ x ∈ L, x.m.mn = 0 ∧ x.m.en = 0) (hb : L.length ≤ 1000)
    (K : ∀ a c w', St W w' (OwnS 13 a ln c (letC (L.map LetV.bare)) :: OwnS 13 la ln lc (letC L) :: R) → post (.returned (.slice a ln c)) w') :
    Calls Tryz.prog 27 #[.slice la ln lc] w post := by
  have HK := hid K; clear K
  have rd0 := OwnS.rd st
  have hln : L.length = ln := by have := rd0.len; rw [letC_size] at this; omega
  have HL := hid hln
  have HZ := hid hz
  have hb2 : ln ≤ 1000 := by omega
  have big := rd0.big
  clear hz rd0 hln hb
  go_enter Tryz.func27, Tryz.ntmps27
  go_wp2_with fail
  have u0 := OwnS.empty (sz := 13) ((St.alloc st #[] 89).drop) (some ⟨w.heap.size, 0, none⟩)
  go_loopw [3, 9] (fun ov ii wr => ∃ (i : Nat) (a : Option Addr) (c : Nat), i ≤ ln ∧ ii = .int .i64 i ∧ ov = .slice a i c ∧ St W wr (OwnS 13 a i c (letC ((L.take i).map LetV.bare)) :: OwnS 13 la ln lc (letC L) :: R)) (fun _ ii _ => ln - (intOf ii).toNat)
  case atStart => exact ⟨0, _, 0, Nat.zero_le _, rfl, rfl, u0⟩
  case round =>
    obtain ⟨i, a, c, hi, rfl, rfl, sr⟩ := hrel
    by_cases hlt : i < ln
    · have hi2 : (i : Int) < (ln : Int) := by omega
      have rd := OwnS.rd (St.pick 1 sr)
      obtain ⟨g3, o3, rfl⟩ := rd.addr (by omega)
      have hiA : i < L.length := by rw [HL.out]; exact hlt
      have ci := letLd agg60 rd hiA
      have hsn := letC_snocM hiA
      have hz := HZ.out _ (List.getElem_mem hiA)
      obtain ⟨q, hq⟩ : ∃ q, L[i] = q := ⟨_, rfl⟩
      rw [hq] at ci hsn hz
      have HS := hid hsn; have HZ1 := hid hz
      have hb1 : (i + 1) * 160 ≤ 140737488355328 := by omega
      have hm1 : i + 1 ≤ maxLen := by unfold maxLen; omega
      clear hq hsn rd hiA hz
      go_wp2_with (first
        | (refine wpl_allocA rfl rfl zero60 sr ?_; rintro P w7 s7)
        | (refine wpl_storeA (vs := q.cells) rfl (.tmp 5) (.tmp 12) (by rfl) agg60 (by rfl) (by rfl) rfl (let_one q) s7 rfl ?_; rintro w8 s8))
      simp only [Act.put, List.setIfInBounds_toArray, List.set_cons_succ, List.set_cons_zero]
      have u := s8.drew
      have gA := letP u
      go_region_held3 (fun w' => w'.cell? ⟨P, 0, none⟩ = some (.int .i64 q.to) ∧ (loadG 58 (.pointer (some ⟨P, 1, none⟩))).run Tryz.prog w' = .ok (.agg q.m.cells.toArray) w')
        (first
          | with_reducible exact gD
          | with_reducible exact gC
          | with_reducible exact gB
          | with_reducible exact gA)
        (first
          | (go_at_call 61; refine msgTo0_c (m := q.m) u HZ1.out ?_; rintro wA sA; have gB := letP sA
             have sB := sA.alloc (LetV.cells ⟨q.to, q.m.bare2⟩).toArray 89
             have gC := letP (St.pick 1 sB))
          | (refine step_append_st rfl (.tmp 13) (.tmp 20) rfl Tryz.elem86 rfl rfl (St.pick 2 sB) (St.rowRd (sz := 13) (n := 1) sB rfl (by decide) (let_one q.bare)) hb1 hm1 ?_; rintro a9 c9 w9 s9; have gD := letP (St.pick 2 s9)))
      go_wp2_with fail
      go_roundw
      case rel => exact ⟨i + 1, a9, c9, by omega, by go_num, rfl, by rw [HS.out]; exact St.drop (St.pick 1 (St.drop (St.pick 1 s9)))⟩
      case measure => simp [intOf]; omega
    · have hie : ln = i := by omega
      subst hie
      rw [List.take_of_length_le (by rw [HL.out]; exact Nat.le_refl _)] at sr
      go_wp2_with fail
      exact HK.out _ _ _ sr
end

end Go.Proofs.YtbpdchaeakihkaaGreat
