/- NetTrue: among. -/
import Derived.Test.YtnibgchgcggfbabNetU
namespace Go.Proofs.Ytnibgchgcggfbab
open Go.RowKit Go.Qd

/-- In how many of the first k places two lists of bytes part. -/
def unl (xs ys : List Int) : Nat → Nat
  | 0 => 0
  | k + 1 => unl xs ys k + if xs.getD k 0 = ys.getD k 0 then 0 else 1

theorem unl_le (xs ys : List Int) : ∀ k, unl xs ys k ≤ k
  | 0 => Nat.le_refl _
  | k + 1 => by have := unl_le xs ys k; unfold unl; split <;> omega

/-- Was a frame sent between two, but for one byte? -/
def amongB (S : List ActV) (f t : Int) (bs : List Int) : Bool := S.any fun a => decide (a.x = f) && decide (a.y = t) && decide (a.m = bs.length) && decide (unl bs a.L bs.length ≤ 1)

/-- Its cells, read one by one. -/
theorem act7 {w : World} {g o n c k : Nat} {l : List ActV} (rd : RdS w 7 (some ⟨g, o, none⟩) n c (actCells l)) (hkl : k < l.length) :
    w.cell? ⟨g, o + k * 7, none⟩ = some (.int .i64 l[k].kind) ∧ w.cell? ⟨g, o + k * 7 + 1, none⟩ = some (.int .i64 l[k].i) ∧ w.cell? ⟨g, o + k * 7 + 2, none⟩ = some (.int .i64 l[k].x) ∧ w.cell? ⟨g, o + k * 7 + 3, none⟩ = some (.int .i64 l[k].y) ∧
    w.cell? ⟨g, o + k * 7 + 4, none⟩ = some (.slice l[k].a l[k].m l[k].c) ∧ w.cell? ⟨g, o + k * 7 + 5, none⟩ = some (.int .u8 l[k].by_) ∧ w.cell? ⟨g, o + k * 7 + 6, none⟩ = some (.bool l[k].cut) :=
  ⟨rd.at (by have := actCells_get hkl (j := 0) (by decide); rw [Nat.add_zero] at this; rw [this]; rfl), rd.at2 (by rw [actCells_get hkl (j := 1) (by decide)]; rfl), rd.at2 (by rw [actCells_get hkl (j := 2) (by decide)]; rfl),
    rd.at2 (by rw [actCells_get hkl (j := 3) (by decide)]; rfl), rd.at2 (by rw [actCells_get hkl (j := 4) (by decide)]; rfl), rd.at2 (by rw [actCells_get hkl (j := 5) (by decide)]; rfl), rd.at2 (by rw [actCells_get hkl (j := 6) (by decide)]; rfl)⟩

theorem any_take {α : Type} {p : α → Bool} {l : List α} {i : Nat} (h : i < l.length) : (l.take (i + 1)).any p = ((l.take i).any p || p l[i]) := by
  rw [List.take_succ_eq_append_getElem h, List.any_append]; simp

set_option maxHeartbeats 1000000 in
theorem among_c {W w : World} {R : List HP} {post : Ending → World → Prop} {ao ab : Option Addr} {n c nb cb : Nat} {S : List ActV} {f t : Int} {bs : List Int} (st : St W w R) (rd : Rds W R 7 ao n c (actCells S)) (hok : ∀ x ∈ S, x.ok W)
    (rb : Rds W R 1 ab nb cb (bvs bs))
    (K : ∀ w', St W w' R → post (.returned (.bool (amongB S f t bs))) w') : Calls Try.prog 20 #[.slice ao n c, .int .i64 f, .int .i64 t, .slice ab nb cb] w post := by
  have HK := hid K; clear K
  have hl := hid (actCells_len (rd w st))
  have hbl := hid (bvs_len (rb w st))
  have hbig := (rd w st).big
  have hbb := (rb w st).big
  have HOK := hid hok; clear hok
  go_enter Try.func20, Try.ntmps20
  go_wp2_with fail
  go_loopw [15] (fun ii wr => ∃ k : Nat, k ≤ n ∧ ii = .int .i64 k ∧ Hid ((S.take k).any (fun a => decide (a.x = f) && decide (a.y = t) && decide (a.m = bs.length) && decide (unl bs a.L bs.length ≤ 1)) = false) ∧ St W wr R) (fun ii _ => n - (intOf ii).toNat)
  case atStart => exact ⟨0, Nat.zero_le _, rfl, hid rfl, st⟩
  case round =>
    obtain ⟨k, hk, rfl, hh, sr⟩ := hrel
    by_cases hlt : k < n
    · obtain ⟨g, o, rfl⟩ := (rd w st).addr (by omega)
      have hkl : k < S.length := by rw [hl.out]; exact hlt
      obtain ⟨c0, c1, c2, c3, c4, c5, c6⟩ := act7 (rd wr sr) hkl
      have hxok := HOK.out _ (List.getElem_mem hkl)
      have hs := hid (any_take (p := fun a : ActV => decide (a.x = f) && decide (a.y = t) && decide (a.m = bs.length) && decide (unl bs a.L bs.length ≤ 1)) hkl)
      have ht := hid (fun h => List.any_eq_true.2 ⟨S[k], List.getElem_mem hkl, h⟩ : (decide (S[k].x = f) && decide (S[k].y = t) && decide (S[k].m = bs.length) && decide (unl bs S[k].L bs.length ≤ 1)) = true → amongB S f t bs = true)
      obtain ⟨x, hx⟩ : ∃ x, S[k] = x := ⟨_, rfl⟩
      rw [hx] at c0 c1 c2 c3 c4 c5 c6 hxok hs ht
      clear hx
      obtain ⟨xk, xi, xx, xy, xa, xm, xc, xL, xb, xcut⟩ := x
      dsimp only at c0 c1 c2 c3 c4 c5 c6 hs ht
      have rx : RdS W 1 xa xm xc (bvs xL) := hxok
      clear hxok
      have s4 := sr.alloc #[.int .i64 xk, .int .i64 xi, .int .i64 xx, .int .i64 xy, .slice xa xm xc, .int .u8 xb, .bool xcut] 47
      have hxl := hid (bvs_len rx)
      by_cases hm : (xx = f ∧ xy = t) ∧ xm = nb
      · obtain ⟨⟨hm1, hm2⟩, hm3⟩ := hm
        subst hm1
        subst hm2
        subst hm3
        go_wp2_with fail
        generalize wr.heap.size = B at s4 ⊢
        obtain ⟨w4, hw4⟩ : ∃ w4, wr.alloc (.cells #[.int .i64 xk, .int .i64 xi, .int .i64 xx, .int .i64 xy, .slice xa xm xc, .int .u8 xb, .bool xcut] 47) = w4 := ⟨_, rfl⟩
        rw [hw4] at s4 ⊢
        clear hw4
        go_loopw [11, 39] (fun u jj wx => ∃ (j m : Nat), j ≤ xm ∧ jj = .int .i64 j ∧ u = .int .i64 m ∧ Hid (m = unl bs xL j) ∧ m ≤ j ∧ St W wx (row B 0 [.int .i64 xk, .int .i64 xi, .int .i64 xx, .int .i64 xy, .slice xa xm xc, .int .u8 xb, .bool xcut] :: R)) (fun _ jj _ => xm - (intOf jj).toNat)
        case atStart => exact ⟨0, 0, Nat.zero_le _, rfl, rfl, hid rfl, Nat.le_refl _, s4⟩
        case round =>
          obtain ⟨j, m, hj, rfl, rfl, hu, hmj, sx⟩ := hrel
          by_cases hjl : j < xm
          · have d4 : wr.cell? ⟨B, 4, none⟩ = some (.slice xa xm xc) := by have := sx.rowCell (i := 4) rfl; rwa [Nat.zero_add] at this
            have rx2 := rx.st sx
            have rb2 := rb _ sx.drop
            obtain ⟨gx, ox, rfl⟩ := rx.addr (by omega)
            obtain ⟨gb, ob, rfl⟩ := rb2.addr (by omega)
            have hjb : j < bs.length := by rw [hbl.out]; exact hjl
            have hjx : j < xL.length := by rw [hxl.out]; exact hjl
            have e1 := rx2.at (i := j) (u := .int .u8 xL[j]) (by simp [bvs, hjx])
            have e2 := rb2.at (i := j) (u := .int .u8 bs[j]) (by simp [bvs, hjb])
            have hn := hid (show unl bs xL (j + 1) = m + if bs[j] = xL[j] then 0 else 1 by rw [hu.out]; show _ + _ = _; simp [hjb, hjx])
            obtain ⟨X, hX⟩ : ∃ X, xL[j] = X := ⟨_, rfl⟩
            obtain ⟨Y, hY⟩ : ∃ Y, bs[j] = Y := ⟨_, rfl⟩
            rw [hX] at e1 hn
            rw [hY] at e2 hn
            clear hX hY
            by_cases hXY : Y = X
            · subst hXY
              go_wp2_with fail
              go_quiet (fail)
              go_wp2
              go_roundw
              case rel => exact ⟨j + 1, m, by omega, by go_num, rfl, hid (by rw [hn.out]; simp), by omega, sx.drewN nq⟩
              case measure => simp [intOf]; omega
            · have hb : (Y != X) = true := by simpa using hXY
              go_wp2_with fail
              go_quiet (fail)
              go_wp2
              go_roundw
              case rel => exact ⟨j + 1, m + 1, by omega, by go_num, by go_num, hid (by rw [hn.out, if_neg hXY]), by omega, sx.drewN nq⟩
              case measure => simp [intOf]; omega
          · have hje : j = xm := by omega
            subst hje
            by_cases h1 : m ≤ 1
            · have hb : amongB S xx xy bs = true := ht.out (by rw [hbl.out]; simp; rw [← hu.out]; exact h1)
              rw [hb] at HK
              clear hb
              go_wp2
              exact HK.out _ sx.drop
            · have hn := hid (show (List.take (k + 1) S).any (fun a => decide (a.x = xx) && decide (a.y = xy) && decide (a.m = bs.length) && decide (unl bs a.L bs.length ≤ 1)) = false by
                rw [hs.out, hh.out, hbl.out, Bool.false_or]; simp; rw [← hu.out]; omega)
              go_wp2
              go_roundw
              case rel => exact ⟨k + 1, by omega, by go_num, hn, sx.drop⟩
              case measure => simp [intOf]; omega
      · have hn := hid (show (List.take (k + 1) S).any (fun a => decide (a.x = f) && decide (a.y = t) && decide (a.m = bs.length) && decide (unl bs a.L bs.length ≤ 1)) = false by
          rw [hs.out, hh.out, hbl.out, Bool.false_or]
          simp only [Bool.and_eq_false_iff, decide_eq_false_iff_not]
          by_cases h1 : xx = f
          · by_cases h2 : xy = t
            · exact .inl (.inr fun h3 => hm ⟨⟨h1, h2⟩, h3⟩)
            · exact .inl (.inl (.inr h2))
          · exact .inl (.inl (.inl h1)))
        by_cases h1 : xx = f
        · subst h1
          by_cases h2 : xy = t
          · subst h2
            have h3 : ((xm : Int) != (nb : Int)) = true := by simp; intro e; exact hm ⟨⟨rfl, rfl⟩, by omega⟩
            clear hm
            go_wp2
            go_roundw
            case rel => exact ⟨k + 1, by omega, by go_num, hn, s4.drop⟩
            case measure => simp [intOf]; omega
          · have h2' : (xy != t) = true := by simpa using h2
            clear hm h2
            go_wp2
            go_roundw
            case rel => exact ⟨k + 1, by omega, by go_num, hn, s4.drop⟩
            case measure => simp [intOf]; omega
        · have h1' : (xx != f) = true := by simpa using h1
          clear hm h1
          go_wp2
          go_roundw
          case rel => exact ⟨k + 1, by omega, by go_num, hn, s4.drop⟩
          case measure => simp [intOf]; omega
    · have hkn : k = n := by omega
      subst hkn
      have hb : amongB S f t bs = false := by
        have := hh.out
        rw [List.take_of_length_le (by rw [hl.out]; exact Nat.le_refl _)] at this
        exact this
      rw [hb] at HK
      clear hb
      go_wp2
      exact HK.out _ sr

end Go.Proofs.Ytnibgchgcggfbab
