/- NetTrue: few. -/
import Derived.Test.YtnibgchgcggfbabNetT
namespace Go.Proofs.Ytnibgchgcggfbab
open Go.RowKit Go.Qd

def fewB (l : List ActV) : Bool := l.all (fun x => decide (x.m ≤ 100)) && decide (l.length ≤ 60)

set_option maxHeartbeats 400000 in
theorem few_c {W w : World} {R : List HP} {post : Ending → World → Prop} {ao : Option Addr} {n c : Nat} {l : List ActV} (st : St W w R) (rd : RdS W 7 ao n c (actCells l))
    (K : ∀ w', St W w' R → post (.returned (.bool (fewB l))) w') : Calls Try.prog 14 #[.slice ao n c] w post := by
  have HK := hid K; clear K
  have hl := hid (actCells_len rd)
  have hbig := rd.big
  go_enter Try.func14, Try.ntmps14
  go_wp2_with fail
  go_loopw [7] (fun ii wr => ∃ k : Nat, k ≤ n ∧ ii = .int .i64 k ∧ Hid ((l.take k).all (fun x => decide (x.m ≤ 100)) = true) ∧ St W wr R) (fun ii _ => n - (intOf ii).toNat)
  case atStart => exact ⟨0, Nat.zero_le _, rfl, hid rfl, st⟩
  case round =>
    obtain ⟨k, hk, rfl, hh, sr⟩ := hrel
    by_cases hlt : k < n
    · obtain ⟨g, o, rfl⟩ := rd.addr (by omega)
      have hkl : k < l.length := by rw [hl.out]; exact hlt
      have hc0 := (rd.st sr).at (i := k * 7) (u := .int .i64 l[k].kind) (by have := actCells_get hkl (j := 0) (by decide); rw [Nat.add_zero] at this; rw [this]; rfl)
      have hc1 := (rd.st sr).at2 (i := k * 7) (j := 1) (u := .int .i64 l[k].i) (by rw [actCells_get hkl (j := 1) (by decide)]; rfl)
      have hc2 := (rd.st sr).at2 (i := k * 7) (j := 2) (u := .int .i64 l[k].x) (by rw [actCells_get hkl (j := 2) (by decide)]; rfl)
      have hc3 := (rd.st sr).at2 (i := k * 7) (j := 3) (u := .int .i64 l[k].y) (by rw [actCells_get hkl (j := 3) (by decide)]; rfl)
      have hc4 := (rd.st sr).at2 (i := k * 7) (j := 4) (u := .slice l[k].a l[k].m l[k].c) (by rw [actCells_get hkl (j := 4) (by decide)]; rfl)
      have hc5 := (rd.st sr).at2 (i := k * 7) (j := 5) (u := .int .u8 l[k].by_) (by rw [actCells_get hkl (j := 5) (by decide)]; rfl)
      have hc6 := (rd.st sr).at2 (i := k * 7) (j := 6) (u := .bool l[k].cut) (by rw [actCells_get hkl (j := 6) (by decide)]; rfl)
      have hs := take_all (p := fun x : ActV => decide (x.m ≤ 100)) hkl
      obtain ⟨x, hx⟩ : ∃ x, l[k] = x := ⟨_, rfl⟩
      rw [hx] at hc0 hc1 hc2 hc3 hc4 hc5 hc6 hs
      have HX := hid hx; have HS := hid hs; clear hx hs
      by_cases hh1 : x.m ≤ 100
      · have hs2 := hid (show (l.take (k + 1)).all (fun x => decide (x.m ≤ 100)) = true by rw [HS.out, hh.out]; simpa using hh1)
        go_wp2
        go_roundw
        case rel => exact ⟨k + 1, by omega, by go_num, hs2, (sr.alloc _ _).drop⟩
        case measure => simp [intOf]; omega
      · have hb : fewB l = false := by
          unfold fewB
          rw [Bool.and_eq_false_iff]
          refine .inl ?_
          rw [List.all_eq_false]
          exact ⟨l[k], List.getElem_mem hkl, by rw [HX.out]; simpa using hh1⟩
        rw [hb] at HK
        clear hb
        go_wp2
        exact HK.out _ (sr.alloc _ _).drop
    · have hkn : k = n := by omega
      subst hkn
      have hb : fewB l = decide ((k : Int) ≤ 60) := by
        unfold fewB
        have := hh.out
        rw [List.take_of_length_le (by rw [hl.out]; exact Nat.le_refl _)] at this
        rw [this, Bool.true_and, hl.out]
        rw [Bool.eq_iff_iff]; simp; omega
      rw [hb] at HK
      clear hb
      go_wp2
      exact HK.out _ sr

end Go.Proofs.Ytnibgchgcggfbab
