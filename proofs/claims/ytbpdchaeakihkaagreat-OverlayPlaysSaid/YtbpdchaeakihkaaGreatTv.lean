/- Tv: several texts, joined. The dice: what New, Feed, Left, Draw and slices.Clone do, as contracts in the logic of ownership. -/
import Derived.Test.YtbpdchaeakihkaaGreatRows
import Derived.Test.YtbpdchaeakihkaaGreatLib
import Derived.WalkKit
import Derived.WalkSpells
import Derived.WalkLawsBesides
import Derived.BigQuiet
import Derived.Deep.QuietTactic
import Derived.StillTailTactics
import Derived.Laws.Externs
import Derived.IntWalk
import Derived.Test.YtbpdchaeakihkaaGreatShelf
namespace Go.Proofs.YtbpdchaeakihkaaGreat
open Go.RowKit Go.Qd

theorem Tryz.elem24 : ElemT Tryz.prog 24 3 1 8 := ElemT.mk' Tryz.underlying24 (by kernel_rfl : (Tryz.prog.info? 3).map (fun i => (i.zero, i.size, i.bytes)) = some (some (.int .i64 0), 1, 8)) rfl (by decide) (by simp [Value.cells, Value.oneCell'])

theorem nil_of_len {sz c : Nat} {w : World} {zs : List Int} (rd : RdS w sz none 0 c (ivs zs)) : zs = [] :=
  List.eq_nil_of_length_eq_zero (by have := rd.len; simpa [ivs] using this)

/-- slices.Clone of a slice of int. -/
theorem clone_c {W w : World} {R : List HP} {post : Ending → World → Prop} {ao : Option Addr} {n c : Nat} {zs : List Int} (st : St W w R) (rd : RdS w 1 ao n c (ivs zs)) (hb : n * 8 ≤ 140737488355328)
    (K : ∀ ao' c' w', St W w' (OwnS 1 ao' n c' (ivs zs) :: R) → post (.returned (.slice ao' n c')) w') : Calls Tryz.prog 41 #[.slice ao n c] w post := by
  have hcmp : ∀ w ao n c, (binOp .eql 24 (.slice ao n c) (.slice none 0 0)).run Tryz.prog w = .ok (.bool ao.isNone) w := fun w ao n c => Lib.run_eql_slice_nil w 24 3 ao n c 0 0 Tryz.underlying24
  have HK := hid K; clear K
  cases ao with
  | none =>
    have hc := rd.nil rfl
    have hn : n = 0 := by have := rd.le; omega
    subst hc; subst hn
    have hz : zs = [] := nil_of_len rd
    subst hz
    go_enter Tryz.func41, Tryz.ntmps41
    go_wp2
    exact HK.out none 0 w (OwnS.none0 st)
  | some a =>
    go_enter Tryz.func41, Tryz.ntmps41
    have s1 : St W (w.alloc (.cells #[] 3)) (OwnS 1 (some ⟨w.heap.size, 0, none⟩) 0 0 [] :: R) := OwnS.empty (st.alloc #[] 3).drop _
    have r1 := rd.alloc (.cells #[] 3)
    have hm : n ≤ maxLen := by unfold maxLen; omega
    go_wp2_with (at_builtin; refine wpl_append rfl _ _ rfl Tryz.elem24 rfl rfl s1 r1 (by omega) (by omega) ?_; rintro ao' c' w' s2; rw [Nat.zero_add] at s2 ⊢)
    exact HK.out _ _ _ s2

/-- Dice at a block, with these numbers. -/
def DiceA (b : Nat) (l : List Int) : HP := fun h => ∃ x : Option Addr × Nat × Nat, sepL [pt b 0 (.slice x.1 x.2.1 x.2.2), OwnS 1 x.1 x.2.1 x.2.2 (ivs l)] h

theorem DiceA.open {W w : World} {R : List HP} {b : Nat} {l : List Int} (st : St W w (DiceA b l :: R)) : ∃ ao n c, St W w (pt b 0 (.slice ao n c) :: OwnS 1 ao n c (ivs l) :: R) := by
  obtain ⟨x, s⟩ := St.ex (F := fun (x : Option Addr × Nat × Nat) h => sepL [pt b 0 (.slice x.1 x.2.1 x.2.2), OwnS 1 x.1 x.2.1 x.2.2 (ivs l)] h) st
  exact ⟨_, _, _, (St.flat _).1 s⟩

theorem DiceA.close {W w : World} {R : List HP} {b : Nat} {l : List Int} {ao : Option Addr} {n c : Nat} (st : St W w (pt b 0 (.slice ao n c) :: OwnS 1 ao n c (ivs l) :: R)) : St W w (DiceA b l :: R) :=
  ((St.flat [pt b 0 (.slice ao n c), OwnS 1 ao n c (ivs l)]).2 st).imp fun _ x => ⟨(ao, n, c), x⟩

theorem new_c {W w : World} {R : List HP} {post : Ending → World → Prop} {ao : Option Addr} {n c : Nat} {zs : List Int} (st : St W w R) (rd : RdS w 1 ao n c (ivs zs)) (hb : n * 8 ≤ 140737488355328)
    (K : ∀ b w', St W w' (DiceA b zs :: R) → post (.returned (.pointer (some ⟨b, 0, none⟩))) w') : Calls Tryz.prog 14 #[.slice ao n c] w post := by
  have HK := hid K; clear K
  go_enter Tryz.func14, Tryz.ntmps14
  go_wp2_with (go_at_call 41; refine clone_c st rd hb ?_; rintro ao' c' w' s2)
  have s3 := (s2.alloc #[.slice ao' n c'] 112).row1
  exact HK.out _ _ (DiceA.close s3)

theorem left_c {W w : World} {R : List HP} {post : Ending → World → Prop} {b : Nat} {l : List Int} (st : St W w (DiceA b l :: R))
    (K : post (.returned (.int .i64 l.length)) w) : Calls Tryz.prog 25 #[.pointer (some ⟨b, 0, none⟩)] w post := by
  have HK := hid K; clear K
  obtain ⟨ao, n, c, s⟩ := DiceA.open st
  have hcell := s.cell
  have hl : n = l.length := by have := (OwnS.rd (St.pick 1 s)).len; simpa [ivs] using this.symm
  subst hl
  go_enter Tryz.func25, Tryz.ntmps25
  go_wp2
  exact HK.out

/-- What is drawn, and what is left. -/
def drawV (l : List Int) (n : Int) : Int := match l with
  | [] => 0
  | x :: _ => if n < 1 then 0 else x % n
def drawL (l : List Int) (n : Int) : List Int := match l with
  | [] => []
  | x :: r => if n < 1 then x :: r else r

theorem tmod_mod (x n : Int) : x.tmod n % n = x % n := by
  conv => rhs; rw [← Int.tmod_add_mul_tdiv x n]
  rw [Int.add_mul_emod_self_left]
theorem tmod_lo {x n : Int} (hn : 1 ≤ n) : -n < x.tmod n ∧ x.tmod n < n :=
  ⟨by have := Int.lt_tmod_of_pos x (b := n) (by omega); omega, Int.tmod_lt_of_pos x (by omega)⟩
theorem tmod_neg {x n : Int} (hn : 1 ≤ n) (h : x.tmod n < 0) : x.tmod n + n = x % n := by
  rw [← tmod_mod]
  have := tmod_lo (x := x) hn
  rw [← Int.add_emod_right (x.tmod n) n, Int.emod_eq_of_lt (by omega) (by omega)]
theorem tmod_pos {x n : Int} (hn : 1 ≤ n) (h : ¬ x.tmod n < 0) : x.tmod n = x % n := by
  rw [← tmod_mod]
  have := tmod_lo (x := x) hn
  rw [Int.emod_eq_of_lt (by omega) (by omega)]
theorem draw_c {W w : World} {R : List HP} {post : Ending → World → Prop} {b : Nat} {l : List Int} {n : Int} (st : St W w (DiceA b l :: R)) (hn : n ≤ 9223372036854775807)
    (K : ∀ w', St W w' (DiceA b (drawL l n) :: R) → post (.returned (.int .i64 (drawV l n))) w') : Calls Tryz.prog 138 #[.pointer (some ⟨b, 0, none⟩), .int .i64 n] w post := by
  have HK := hid K; clear K
  obtain ⟨ad, nd, cd, s⟩ := DiceA.open st
  have hcell := s.cell
  have hfree := s.free
  have hrd := OwnS.rd (St.pick 1 s)
  have hl : nd = l.length := by have := hrd.len; simpa [ivs] using this.symm
  subst hl
  by_cases h1 : n < 1
  · have k : St W w (DiceA b (drawL l n) :: R) ∧ drawV l n = 0 := by cases l <;> simp [drawL, drawV, h1] <;> exact st
    have k2 := HK.out w k.1
    rw [k.2] at k2
    have HK2 := hid k2; clear k2 HK k
    go_enter Tryz.func138, Tryz.ntmps138
    go_wp2
    exact HK2.out
  · cases l with
    | nil =>
      have k2 := hid (HK.out w st)
      clear HK
      go_enter Tryz.func138, Tryz.ntmps138
      go_wp2
      exact k2.out
    | cons x r =>
      obtain ⟨g, o, rfl⟩ := hrd.addr (by simp)
      have hx : w.cell? ⟨g, o, none⟩ = some (.int .i64 x) := hrd.at (i := 0) rfl
      have h2 : drawL (x :: r) n = r := by simp [drawL, h1]
      have h3 : drawV (x :: r) n = x % n := by simp [drawV, h1]
      rw [h2, h3] at HK
      clear h2 h3
      have s1 : St W w (OwnS 1 (some ⟨g, o, none⟩) (r.length + 1) cd (ivs (x :: r)) :: pt b 0 (.slice (some ⟨g, o, none⟩) (r.length + 1) cd) :: R) := s.pick 1
      have hb := tmod_lo (x := x) (n := n) (by omega)
      by_cases h4 : x.tmod n < 0
      · have h5 := hid (tmod_neg (by omega) h4)
        go_enter Tryz.func138, Tryz.ntmps138
        go_wp2_with (refine wpl_cut rfl _ _ rfl Tryz.elem24 1 (n' := r.length) rfl rfl s1 rfl ?_; rintro ao' c' s2)
        rw [h5.out]
        exact HK.out _ (DiceA.close (St.set (St.pick 1 s2) _))
      · have h5 := hid (tmod_pos (by omega) h4)
        go_enter Tryz.func138, Tryz.ntmps138
        go_wp2_with (refine wpl_cut rfl _ _ rfl Tryz.elem24 1 (n' := r.length) rfl rfl s1 rfl ?_; rintro ao' c' s2)
        rw [h5.out]
        exact HK.out _ (DiceA.close (St.set (St.pick 1 s2) _))

end Go.Proofs.YtbpdchaeakihkaaGreat

/- The dice: Pick; the reference's Same. -/
namespace Go.Proofs.YtbpdchaeakihkaaGreat
open Go.RowKit Go.Qd

theorem drawV_range {l : List Int} {n : Int} (h : 1 ≤ n) : 0 ≤ drawV l n ∧ drawV l n < n := by
  cases l with
  | nil => exact ⟨Int.le_refl _, by simp [drawV]; omega⟩
  | cons x r =>
    have h1 : ¬ n < 1 := by omega
    simp only [drawV, h1, if_false]
    exact ⟨Int.emod_nonneg x (by omega), Int.emod_lt_of_pos x (by omega)⟩

def pickV (l zs : List Int) : Int := zs.getD (drawV l zs.length).toNat 0

/-- Pick. -/
theorem pick_c {W w : World} {R : List HP} {post : Ending → World → Prop} {b : Nat} {l : List Int} {ao : Option Addr} {n c : Nat} {zs : List Int} (st : St W w (DiceA b l :: R))
    (rd : ∀ w', St W w' R → RdS w' 1 ao n c (ivs zs))
    (K : ∀ w', St W w' (DiceA b (if zs = [] then l else drawL l zs.length) :: R) → post (.returned (.tuple #[.int .i64 (if zs = [] then 0 else pickV l zs), .bool (!zs.isEmpty)])) w') :
    Calls Tryz.prog 90 #[.pointer (some ⟨b, 0, none⟩), .slice ao n c] w post := by
  have HK := hid K; clear K
  have r0 := rd w st.drop
  have hn : zs.length = n := by have := r0.len; simpa [ivs] using this
  have HN := hid hn
  have hm := r0.max
  have hle := r0.le
  unfold maxLen at hm
  rcases Nat.eq_zero_or_pos n with h0 | h0
  · subst h0
    have hz : zs = [] := List.eq_nil_of_length_eq_zero hn
    subst hz
    have k := hid (HK.out w st)
    clear HK HN hn rd
    go_enter Tryz.func90, Tryz.ntmps90
    go_wp2
    exact k.out
  · have hz : zs ≠ [] := fun h => by subst h; simp at hn; omega
    have hz' : zs.isEmpty = false := by cases zs <;> simp at hz ⊢
    rw [if_neg hz, if_neg hz, hz', hn] at HK
    obtain ⟨g, o, rfl⟩ := r0.addr h0
    have hr := drawV_range (l := l) (n := (n : Int)) (by omega)
    have hd := hid rd; clear rd
    obtain ⟨k, hk⟩ := Int.eq_ofNat_of_zero_le hr.1
    have hkn : k < n := by rw [hk] at hr; omega
    have hkl : k < zs.length := by omega
    have hv : pickV l zs = zs[k] := by
      unfold pickV; rw [hn, hk]; simp [List.getD, hkl]
    rw [hv] at HK
    have HH := hid hk
    clear hr hk hv r0 hn hz hz'
    go_enter Tryz.func90, Tryz.ntmps90
    go_wp2_with (go_at_call 138; refine draw_c st (by omega) ?_; rintro w' s2; have hc := (hd.out w' s2.drop).at (ivs_get hkl); rw [HH.out])
    exact HK.out _ s2

theorem take_snoc_eq {xs ys : List Int} {k : Nat} (hx : k < xs.length) (hy : k < ys.length) (h : xs.take k = ys.take k) (e : xs[k] = ys[k]) : xs.take (k + 1) = ys.take (k + 1) := by
  rw [List.take_succ_eq_append_getElem hx, List.take_succ_eq_append_getElem hy, h, e]

theorem same_c {post : Ending → World → Prop} {w : World} {ao ap : Option Addr} {n m c d : Nat} {xs ys : List Int} (ra : RdS w 1 ao n c (ivs xs)) (rb : RdS w 1 ap m d (ivs ys))
    (K : ∀ k, post (.returned (.bool (decide (xs = ys)))) (w.drewN k)) : Calls Tryz.prog 26 #[.slice ao n c, .slice ap m d] w post := by
  have HK := hid K; clear K
  have hn := hid (show xs.length = n by have := ra.len; simpa [ivs] using this)
  have hm := hid (show ys.length = m by have := rb.len; simpa [ivs] using this)
  have hl1 := ra.max; have hl2 := ra.le
  unfold maxLen at hl1
  by_cases hnm : n = m
  · subst hnm
    go_enter Tryz.func26, Tryz.ntmps26
    go_wp2
    go_loopw [5] (fun i wr => ∃ k : Nat, k ≤ n ∧ i = .int .i64 k ∧ Hid (xs.take k = ys.take k) ∧ ∃ q, wr = w.drewN q) (fun i _ => n - (intOf i).toNat)
    case atStart => exact ⟨0, Nat.zero_le _, rfl, hid rfl, 0, rfl⟩
    case round =>
      obtain ⟨k, hk, rfl, hh, q, rfl⟩ := hrel
      by_cases hlt : k < n
      · obtain ⟨g, o, rfl⟩ := ra.addr (by omega)
        obtain ⟨g', o', rfl⟩ := rb.addr (by omega)
        have hkx : k < xs.length := by rw [hn.out]; exact hlt
        have hky : k < ys.length := by rw [hm.out]; exact hlt
        have hc1 := ra.at (ivs_get hkx)
        have hc2 := rb.at (ivs_get hky)
        obtain ⟨x, hx⟩ : ∃ x, xs[k] = x := ⟨_, rfl⟩
        obtain ⟨y, hy⟩ : ∃ y, ys[k] = y := ⟨_, rfl⟩
        rw [hx] at hc1
        rw [hy] at hc2
        have HX := hid hx; have HY := hid hy; clear hx hy
        by_cases hxy : x = y
        · have hb : (x != y) = false := by rw [hxy]; simp
          have hs := hid (take_snoc_eq hkx hky hh.out (by rw [HX.out, HY.out, hxy]))
          clear hxy
          go_wp2
          go_quiet (fail)
          go_wp2
          go_roundw
          case rel => exact ⟨k + 1, by omega, by go_num, hs, _, rfl⟩
          case measure => simp [intOf]; omega
        · have hb : (x != y) = true := by simpa using hxy
          have hs := hid (show xs ≠ ys from fun h => hxy (by subst h; rw [← HX.out, ← HY.out]))
          clear hxy
          go_wp2
          go_quiet (fail)
          go_wp2
          have := HK.out (q + nq)
          rw [decide_eq_false hs.out, ← World.drewN_drewN] at this
          exact this
      · have hkn : k = n := by omega
        subst hkn
        have hxy : xs = ys := by
          have := hh.out
          rwa [List.take_of_length_le (by rw [hn.out]; exact Nat.le_refl _), List.take_of_length_le (by rw [hm.out]; exact Nat.le_refl _)] at this
        have hk := HK.out q
        rw [decide_eq_true hxy] at hk
        have HK2 := hid hk
        clear hxy hk HK
        go_wp2
        exact HK2.out
  · have hxy : xs ≠ ys := fun h => hnm (by rw [← hn.out, ← hm.out, h])
    have hk := HK.out 0
    rw [decide_eq_false hxy] at hk
    have HK2 := hid hk
    clear hxy hk HK
    go_enter Tryz.func26, Tryz.ntmps26
    go_wp2
    exact HK2.out

end Go.Proofs.YtbpdchaeakihkaaGreat

/- The dice: what New, Feed, Left, Draw and slices.Clone do, as contracts in the logic of ownership. -/

namespace Go.Proofs.YtbpdchaeakihkaaGreat
open Go.RowKit Go.Qd


set_option maxRecDepth 100000 in
theorem deleteI_c {W w : World} {R : List HP} {post : Ending → World → Prop} {ao : Option Addr} {n c : Nat} {cs : List Value} {i : Nat} (st : St W w (OwnS 1 ao n c cs :: R)) (hi : i < n) (hb : n * 8 ≤ 140737488355328)
    (K : ∀ ao' c' w', St W w' (OwnS 1 ao' (n - 1) c' (cs.take (i * 1) ++ cs.drop ((i + 1) * 1)) :: R) → post (.returned (.slice ao' (n - 1) c')) w') :
    Calls Tryz.prog 139 #[.slice ao n c, .int .i64 i, .int .i64 (i + 1)] w post := by
  have HK := hid K; clear K
  have hrd := OwnS.rd st
  have hle := hrd.le
  have hmax := hrd.max
  have hmax' := hmax
  unfold maxLen at hmax'
  have hne : ((i : Int) == (i : Int) + 1) = false := by simp; omega
  have e1 := run_slice_to Tryz.elem24 ao n c i (by omega)
  obtain ⟨ax, cx, ht, e2⟩ := run_slice_from Tryz.elem24 ao n c (i + 1) (n - 1 - i) (i := (i : Int) + 1) (by omega) (by omega)
  have hm1 : i + (n - 1 - i) ≤ maxLen := by unfold maxLen; omega
  go_enter Tryz.func139, Tryz.ntmps139
  go_wp2
  go_still_tail 6, (by kernel_rfl)
  have s1 : St W w.drew (OwnS 1 ao i c (cs.take (i * 1)) :: R) := (OwnS.short st (by omega)).drew
  have r1 : RdS w.drew 1 ax (n - 1 - i) cx (cs.drop ((i + 1) * 1)) := (RdS.tail hrd (by omega) ht).same (fun _ => rfl)
  clear e1 e2
  change wpList _ _ _ _ _ w.drew
  generalize w.drew = w2 at s1 r1 ⊢
  have hn : i + (n - 1 - i) = n - 1 := by omega
  have hb2 : (i + (n - 1 - i)) * 8 ≤ 140737488355328 := by omega
  have hr2 : i + (n - 1 - i) ≤ c := by omega
  have HN := hid hn; clear hn
  go_wp2_with (first
    | (at_builtin; refine wpl_append_room rfl _ _ rfl Tryz.elem24 rfl rfl s1 r1 hb2 hm1 hr2 ?_; rintro w3 s3; rw [HN.out] at s3; rw [HN.out])
    | (refine wpl_mid rfl _ _ _ rfl Tryz.elem24 (n - 1) n (n' := 1) rfl rfl rfl (by omega) (by omega) ?_; rintro ay cy ht2)
    | (refine wpl_clear rfl _ rfl Tryz.elem24 rfl s3 (by omega) ht2 ?_; rintro w4 s4))
  exact HK.out _ _ _ s4

end Go.Proofs.YtbpdchaeakihkaaGreat

/- The dice: Some. -/
namespace Go.Proofs.YtbpdchaeakihkaaGreat
open Go.RowKit Go.Qd

theorem delete_c {W w : World} {R : List HP} {post : Ending → World → Prop} {ao : Option Addr} {n c : Nat} {zs : List Int} {i : Nat} (st : St W w (OwnS 1 ao n c (ivs zs) :: R)) (hi : i < n) (hb : n * 8 ≤ 140737488355328)
    (K : ∀ ao' c' w', St W w' (OwnS 1 ao' (n - 1) c' (ivs (zs.eraseIdx i)) :: R) → post (.returned (.slice ao' (n - 1) c')) w') :
    Calls Tryz.prog 139 #[.slice ao n c, .int .i64 i, .int .i64 (i + 1)] w post := by
  have hcs : (ivs zs).take (i * 1) ++ (ivs zs).drop ((i + 1) * 1) = ivs (zs.eraseIdx i) := by
    rw [Nat.mul_one, Nat.mul_one, List.eraseIdx_eq_take_drop_succ]; simp only [ivs, ← List.map_take, ← List.map_drop, ← List.map_append]
  exact deleteI_c st hi hb fun a c w s => K a c w (by rw [hcs] at s; exact s)

/-- What Some does to the numbers, and what it gives: (the numbers left, what was drawn, what was not). -/
def someF : Nat → List Int → List Int → List Int × List Int × List Int
  | 0, l, rest => (l, [], rest)
  | k + 1, l, rest => if rest = [] then (l, [], []) else
    let r := someF k (drawL l rest.length) (rest.eraseIdx (drawV l rest.length).toNat)
    (r.1, pickV l rest :: r.2.1, r.2.2)

theorem someF_nil (k : Nat) (l : List Int) : someF k l [] = (l, [], []) := by cases k <;> simp [someF]
theorem someF_step (k : Nat) (l rest : List Int) (h : rest ≠ []) : someF (k + 1) l rest =
    ((someF k (drawL l rest.length) (rest.eraseIdx (drawV l rest.length).toNat)).1, pickV l rest :: (someF k (drawL l rest.length) (rest.eraseIdx (drawV l rest.length).toNat)).2.1,
      (someF k (drawL l rest.length) (rest.eraseIdx (drawV l rest.length).toNat)).2.2) := by
  rw [someF, if_neg h]

/-- Where the loop stands. -/
def SomeAt (K : Nat) (l zs L O Q : List Int) : Prop := O.length ≤ K ∧ someF K l zs = ((someF (K - O.length) L Q).1, O ++ (someF (K - O.length) L Q).2.1, (someF (K - O.length) L Q).2.2)

theorem SomeAt.start (K : Nat) (l zs : List Int) : SomeAt K l zs l [] zs := ⟨Nat.zero_le _, by simp⟩
theorem SomeAt.step {K : Nat} {l zs L O Q : List Int} (h : SomeAt K l zs L O Q) (h1 : O.length < K) (h2 : Q ≠ []) :
    SomeAt K l zs (drawL L Q.length) (O ++ [pickV L Q]) (Q.eraseIdx (drawV L Q.length).toNat) := by
  refine ⟨by simp; omega, ?_⟩
  have e : K - O.length = (K - (O ++ [pickV L Q]).length) + 1 := by simp; omega
  rw [h.2, e, someF_step _ _ _ h2]
  simp
theorem SomeAt.stop1 {K : Nat} {l zs L O Q : List Int} (h : SomeAt K l zs L O Q) (h1 : ¬ O.length < K) : someF K l zs = (L, O, Q) := by
  have e : K - O.length = 0 := by have := h.1; omega
  rw [h.2, e]
  simp [someF]
theorem SomeAt.stop2 {K : Nat} {l zs L O : List Int} (h : SomeAt K l zs L O []) : someF K l zs = (L, O, []) := by
  rw [h.2, someF_nil]
  simp

set_option maxHeartbeats 400000 in
theorem some_c {W w : World} {R : List HP} {post : Ending → World → Prop} {b : Nat} {l : List Int} {ax : Option Addr} {nx cx : Nat} {zs : List Int} {k : Int} (st : St W w (DiceA b l :: R))
    (rd : RdS w 1 ax nx cx (ivs zs)) (hb : nx * 8 ≤ 140737488355328 - 8)
    (K : ∀ ao n c w', St W w' (OwnS 1 ao n c (ivs (someF k.toNat l zs).2.1) :: DiceA b (someF k.toNat l zs).1 :: R) → post (.returned (.slice ao n c)) w') :
    Calls Tryz.prog 92 #[.pointer (some ⟨b, 0, none⟩), .slice ax nx cx, .int .i64 k] w post := by
  have HK := hid K; clear K
  have hz0 : zs.length = nx := by have := rd.len; simpa [ivs] using this
  have HZ := hid hz0
  go_enter Tryz.func92, Tryz.ntmps92
  go_wp2_with (go_at_call 41; refine clone_c st rd (by omega) ?_; rintro a1 c1 w1 s1)
  go_loopw [7, 8] (fun rest out wr => ∃ (ao ap : Option Addr) (n c m d : Nat) (L O Q : List Int), rest = .slice ao n c ∧ out = .slice ap m d ∧ Hid (Q.length = n) ∧ Hid (O.length = m) ∧ n + m ≤ nx ∧ SomeAt k.toNat l zs L O Q ∧
      St W wr (DiceA b L :: OwnS 1 ao n c (ivs Q) :: OwnS 1 ap m d (ivs O) :: R)) (fun rest _ _ => slen rest)
  case atStart => exact ⟨a1, none, nx, c1, 0, 0, l, [], zs, rfl, rfl, hid hz0, hid rfl, by omega, SomeAt.start _ _ _, (St.perm [2, 1] (OwnS.none0 s1))⟩
  case round =>
    obtain ⟨ao, ap, n, c, m, d, L, O, Q, rfl, rfl, hQ, hO, hnm, hat, sr⟩ := hrel
    by_cases h1 : (m : Int) < k
    · rcases Nat.eq_zero_or_pos n with h2 | h2
      · subst h2
        have hq : Q = [] := List.eq_nil_of_length_eq_zero hQ.out
        subst hq
        have he := SomeAt.stop2 hat
        have hk := HK.out ap m d wr (by rw [he]; exact (St.pick 1 (St.pick 1 sr).drop))
        have HK2 := hid hk
        clear hk HK he
        go_wp2
        exact HK2.out
      · obtain ⟨g, o, rfl⟩ := (OwnS.rd (St.pick 1 sr)).addr h2
        have hr := drawV_range (l := L) (n := (n : Int)) (by omega)
        obtain ⟨q, hq⟩ := Int.eq_ofNat_of_zero_le hr.1
        have hqn : q < n := by rw [hq] at hr; omega
        have hql : q < Q.length := by rw [hQ.out]; exact hqn
        have hv : Q[q] = pickV L Q := by
          unfold pickV; rw [hQ.out, hq]; simp [List.getD, hql]
        have hstep := SomeAt.step hat (by have := hO.out; omega) (fun h => by subst h; simp at hql)
        rw [hQ.out, hq, Int.toNat_natCast] at hstep
        have HS := hid hstep
        have hqh := hid hq
        have hvh := hid hv
        clear hr hq hstep hv hat
        have hm1 : m + 1 ≤ maxLen := by unfold maxLen; omega
        have hon : ∀ u ∈ [iv (pickV L Q)], u.oneCell' = true := by simp [Value.oneCell']
        go_wp2_with (first
          | (go_at_call 138; refine draw_c sr (by omega) ?_; rintro w2 s2; rw [hqh.out]; have hc := (OwnS.rd (St.pick 1 s2)).at (ivs_get hql); rw [hvh.out] at hc)
          | (at_builtin; have s3 := St.alloc s2 #[.int .i64 (pickV L Q)] 3; have r3 := St.rowRd (sz := 1) s3 (n := 1) rfl (by decide) hon; have s4 := St.pick 3 s3; refine wpl_append rfl _ _ rfl Tryz.elem24 rfl rfl s4 r3 (by omega) hm1 ?_; rintro a5 c5 w5 s5)
          | (go_at_call 139; refine delete_c (St.pick 3 s5) hqn (by omega) ?_; rintro a6 c6 w6 s6))
        refine ⟨⟨a6, a5, n - 1, c6, m + 1, c5, _, _, _, rfl, rfl, ?_, ?_, by omega, HS.out, ?_⟩, by simp [slen]; omega⟩
        · rw [List.length_eraseIdx, if_pos hql, hQ.out]; exact hid rfl
        · rw [List.length_append, hO.out]; exact hid rfl
        · rw [ivs_append]; exact (s6.pick 2).drop.perm [2, 0, 0]
    · have he := SomeAt.stop1 hat (by have := hO.out; omega)
      have hk := HK.out ap m d wr (by rw [he]; exact (St.pick 1 (St.pick 1 sr).drop))
      have HK2 := hid hk
      clear hk HK he
      go_wp2
      exact HK2.out

end Go.Proofs.YtbpdchaeakihkaaGreat

/- slices.Insert of an int. -/
namespace Go.Proofs.YtbpdchaeakihkaaGreat
open Go.RowKit Go.Qd

set_option maxRecDepth 100000 in
set_option maxHeartbeats 4000000 in
/-- slices.Insert of one element into an owned slice. -/
theorem insertI_c {W w : World} {R : List HP} {post : Ending → World → Prop} {ao : Option Addr} {n c : Nat} {cs vs : List Value} {i vb : Nat} {A : Array Value} (st : St W w (OwnS 1 ao n c cs :: row vb 0 vs :: R))
    (hv : w.heap[vb]? = some (.cells A 3 (0, 0))) (hA : A.size = vs.length) (hvl : vs.length = 1) (h1v : ∀ u ∈ vs, u.oneCell' = true) (hi : i ≤ n) (hb : (n + 1) * 8 ≤ 140737488355328)
    (K : ∀ ao' c' w', St W w' (OwnS 1 ao' (n + 1) c' (cs.take (i * 1) ++ vs ++ cs.drop (i * 1)) :: R) → post (.returned (.slice ao' (n + 1) c')) w') :
    Calls Tryz.prog 137 #[.slice ao n c, .int .i64 i, .slice (some ⟨vb, 0, none⟩) 1 1] w post := by
  have HK := hid K; clear K
  have hrd := OwnS.rd st
  have hle := hrd.le
  have hmax := hrd.max
  have hmax' := hmax
  unfold maxLen at hmax'
  have hm1 : n + 1 ≤ maxLen := by unfold maxLen; omega
  have hcl := hrd.len
  have rv : RdS w 1 (some ⟨vb, 0, none⟩) 1 1 vs := St.rowRd (St.pick 1 st) (by omega) (by decide) h1v
  obtain ⟨ax0, cx0, _, e0⟩ := run_slice_from Tryz.elem24 ao n c i (n - i) (i := (i : Int)) rfl (by omega)
  by_cases hin : i = n
  · subst hin
    have hz : cs.take (i * 1) ++ vs ++ cs.drop (i * 1) = cs ++ vs := by rw [List.take_of_length_le (by omega), List.drop_eq_nil_of_le (by omega), List.append_nil]
    rw [hz] at HK
    have HV := hid hv; have HL := hid hcl; have HA := hid hA; have HVL := hid hvl
    clear hv hcl hA hvl hz
    go_enter Tryz.func137, Tryz.ntmps137
    go_wp2_with (first
      | (at_builtin; refine wpl_append rfl (.tmp 23) (.tmp 24) rfl Tryz.elem24 rfl rfl st rv (by omega) hm1 ?_; rintro a2 c2 w2 s2))
    exact HK.out _ _ _ (St.pick 1 s2).drop
  · have hlt : i < n := by omega
    obtain ⟨b, o, rfl⟩ := hrd.addr (by omega)
    have hne : ((i : Int) == (n : Int)) = false := by simp; omega
    have hiv : ((n : Int) + 1 - (i : Int)) = ((n + 1 - i : Nat) : Int) := by omega
    have hdl : (cs.drop (i * 1)).length = (n - i) * 1 := by rw [List.length_drop, hcl, ← Nat.sub_mul]
    have h1c : ∀ u ∈ cs.drop (i * 1), u.oneCell' = true := fun u hu => hrd.one u (List.mem_of_mem_drop hu)
    have hoc : ∀ j u, (cs.drop (i * 1))[j]? = some u → w.cell? ((⟨b, o + i * 1, none⟩ : Addr).add j) = some u := fun j u hu => by
      rw [add_plain', Nat.add_assoc]
      rw [List.getElem?_drop] at hu
      exact hrd.at hu
    have hil : i * 1 ≤ cs.length := by rw [hcl]; exact Nat.mul_le_mul_right _ hi
    have hmin : Nat.min (n + 1 - i) (n - i) = n - i := Nat.min_eq_right (by omega)
    by_cases hroom : n + 1 ≤ c
    · obtain ⟨sp, p, s⟩ := OwnS.open st
      have s0 : St W w (row b o (cs ++ sp) :: row vb 0 vs :: R) := s
      have hsp : 1 ≤ sp.length := by rw [p.spare]; exact Nat.le_trans (Nat.le_of_eq (Nat.one_mul _).symm) (Nat.mul_le_mul_right _ (by omega))
      have hcp : 0 < (cs ++ sp).length := by rw [List.length_append]; omega
      have hov : ∀ o' lb cb, (callFunc 167 #[.slice (some ⟨vb, 0, none⟩) 1 1, .slice (some ⟨b, o', none⟩) lb cb]).run Tryz.prog w = .ok (.value (.bool false)) w := fun o' lb cb => by
        rw [run_callFunc_extern Tryz.func167 (by kernel_rfl) (by kernel_rfl) (by kernel_rfl) (e := Extern.SlicesOverlaps.overlaps #[24, 24] #[4]) (by kernel_rfl), run_overlaps_no Tryz.elem24 s0 hv hA hcp o' 1 1 lb cb]
        rfl
      have e1 := run_slice_to Tryz.elem24 (some ⟨b, o, none⟩) n c (n + 1) hroom
      have e1' : ∀ w, (Instr.slice 24 (.slice (some ⟨b, o, none⟩) n c) none (some (.int .i64 ((n : Int) + 1))) none).run Tryz.prog w = .ok (.slice (some ⟨b, o, none⟩) (n + 1) c) w := e1
      have e2 := run_slice_at Tryz.elem24 b o (n + 1) c (i + 1) (n' := n - i) (i := (i : Int) + 1) (by omega) (by omega) (by omega)
      have e3 := run_slice_at Tryz.elem24 b o (n + 1) c i (n' := n + 1 - i) (i := (i : Int)) rfl (by omega) (by omega)
      have hs1 : i * 1 + 1 = (i + 1) * 1 := by rw [Nat.add_mul, Nat.one_mul]
      have hfin := splice_insert (cs := cs) (sp := sp) (vs := vs) (p := i * 1) hil hvl hsp
      rw [hs1] at hfin
      have HF := hid hfin
      have hll : (cs.drop (i * 1)).length = Nat.min (n + 1 - i) (n - i) * 1 := by rw [hmin]; exact hdl
      have hpp : (i + 1) * 1 + (cs.drop (i * 1)).length ≤ (cs ++ sp).length := by
        rw [hdl, List.length_append, hcl, ← Nat.add_mul, show i + 1 + (n - i) = n + 1 from by omega, Nat.add_mul, Nat.one_mul]; omega
      have hsl := splice_len hpp
      have hpp2 : i * 1 + vs.length ≤ (splice (cs ++ sp) ((i + 1) * 1) (cs.drop (i * 1))).length := by rw [hsl, hvl, hs1, List.length_append, hcl]; exact Nat.le_trans (Nat.mul_le_mul_right _ (by omega)) (Nat.le_add_right _ _)
      have HV := hid hv; have HL := hid hcl; have HA := hid hA; have HVL := hid hvl; have HSP := hid p.spare; have HSL := hid hsl; have HDL := hid hdl; have HLL := hid hll; have HMIN := hid hmin
      have hvl1 := hid (show vs.length = Nat.min 1 (n + 1 - i) * 1 by rw [hvl, show Nat.min 1 (n + 1 - i) = 1 from Nat.min_eq_left (by omega)] <;> omega)
      have hw1 : IntKind.i64.wrap ((i : Int) + 1) = (i : Int) + 1 := IntWalk.i64_in _ (by omega)
      clear hv hcl hA hvl hfin hsl hdl hll hmin hs1 hrd rv hiv e1
      go_enter Tryz.func137, Tryz.ntmps137
      go_wp2_with (simp only [hov])
      go_still_tail 8, (by kernel_rfl)
      change wpList _ _ _ _ _ w.drew
      have s1 := s0.drew
      have hoc1 : ∀ j u, (cs.drop (i * 1))[j]? = some u → w.drew.cell? ((⟨b, o + i * 1, none⟩ : Addr).add j) = some u := hoc
      generalize w.drew = wq at s1 hoc1 ⊢
      clear hoc hov hw1
      go_wp2_with (first
        | (refine wpl_copy_row (b := b) (o := o) (p := (i + 1) * 1) (d := n - i) (dc := c - (i + 1)) (m := n + 1 - i) (cx := c - i) rfl (.tmp 73) (.tmp 76) rfl Tryz.elem24 (by first | rfl | simp [Act.eval]) (by first | rfl | simp [Act.eval]) s1 HLL.out hpp hoc1 h1c ?_; rintro w2 s2)
        | (refine wpl_copy_row (b := b) (o := o) (p := i * 1) (d := n + 1 - i) (dc := c - i) (m := 1) (cx := 1) rfl (.tmp 80) (.tmp 81) rfl Tryz.elem24 (by first | rfl | simp [Act.eval]) rfl s2 hvl1.out hpp2 (fun j u hu => by rw [add_plain']; exact (St.pick 1 s2).rowCell hu) h1v ?_; rintro w3 s3))
      refine HK.out _ _ _ (OwnS.close (sp := sp.drop 1) ⟨?_, ?_, by omega, hmax, by simp, fun _ => ⟨_, _, rfl⟩, ?_⟩ ?_)
      · simp only [List.length_append, List.length_take, HDL.out, HVL.out, HL.out, Nat.min_eq_left (Nat.mul_le_mul_right _ hi : i * 1 ≤ n * 1)]
        rw [Nat.sub_mul, Nat.add_mul]; have := Nat.mul_le_mul_right 1 hi; omega
      · rw [List.length_drop, HSP.out, ← Nat.sub_one_mul]; congr 1
      · intro u hu
        simp only [List.mem_append] at hu
        rcases hu with (hu | hu) | hu
        · exact p.one u (List.mem_of_mem_take hu)
        · exact h1v u hu
        · exact p.one u (List.mem_of_mem_drop hu)
      · rw [HF.out] at s3
        exact (St.pick 1 s3).drop
    · obtain rfl : n = c := by omega
      clear e0
      have hti : (cs.take (i * 1)).length = i * 1 := by rw [List.length_take]; exact Nat.min_eq_left hil
      have hin1 : i + (n + 1 - i) = n + 1 := by omega
      have rsh := hrd.short hi
      have e5 := run_slice_to Tryz.elem24 (some ⟨b, o, none⟩) n n i (by omega)
      have e8 := run_slice_at Tryz.elem24 b o n n i (n' := n - i) (i := (i : Int)) rfl (by omega) (by omega)
      obtain ⟨g, c', w1, zs, hrun, s1, hzl, hc1, hc2⟩ := run_append_zeros_st Tryz.elem24 Tryz.underlying3 24 st rsh (k := n + 1 - i) (by omega) (by omega) (by rw [hin1]; exact hb) (by rw [hin1]; exact hm1)
      rw [hin1] at hc1 hrun
      rw [← hiv] at hrun
      have e6 := run_slice_at Tryz.elem24 g 0 (n + 1) c' i (n' := n + 1 - i) (i := (i : Int)) rfl (by omega) (by omega)
      have e7 := run_slice_at Tryz.elem24 g 0 (n + 1) c' (i + 1) (n' := n - i) (i := (i : Int) + 1) (by omega) (by omega) (by omega)
      have hzz : (n + 1 - i) * 1 ≤ zs.length := by rw [hzl]; exact Nat.mul_le_mul_right _ (by omega)
      have hz2 : 1 + (cs.length - i * 1) ≤ zs.length := by
        rw [hcl, ← Nat.sub_mul]; refine Nat.le_trans (Nat.le_of_eq ?_) hzz
        rw [show n + 1 - i = (n - i) + 1 from by omega, Nat.add_mul, Nat.one_mul, Nat.add_comm]
      have hs1 : i * 1 + 1 = (i + 1) * 1 := by rw [Nat.add_mul, Nat.one_mul]
      have hfin := splice_insert2 (cs := cs) (zs := zs) (vs := vs) (p := i * 1) hil hvl hz2
      rw [hs1] at hfin
      have HF := hid hfin
      have hvl1 := hid (show vs.length = Nat.min 1 (n + 1 - i) * 1 by rw [hvl, show Nat.min 1 (n + 1 - i) = 1 from Nat.min_eq_left (by omega)] <;> omega)
      have hpp : i * 1 + vs.length ≤ (cs.take (i * 1) ++ zs).length := by rw [List.length_append, hti, hvl]; have : 1 * 1 ≤ (n + 1 - i) * 1 := Nat.mul_le_mul_right _ (by omega); omega
      have hsl := splice_len hpp
      have hll : (cs.drop (i * 1)).length = Nat.min (n - i) (n - i) * 1 := by rw [hdl, show Nat.min (n - i) (n - i) = n - i from Nat.min_self _]
      have hpp2 : (i + 1) * 1 + (cs.drop (i * 1)).length ≤ (splice (cs.take (i * 1) ++ zs) (i * 1) vs).length := by
        rw [hsl, List.length_append, hti, List.length_drop, ← hs1]; omega
      have hw1 : IntKind.i64.wrap ((i : Int) + 1) = (i : Int) + 1 := IntWalk.i64_in _ (by omega)
      have HV := hid hv; have HL := hid hcl; have HA := hid hA; have HVL := hid hvl; have HSL := hid hsl; have HDL := hid hdl; have HLL := hid hll; have HZL := hid hzl; have HTI := hid hti; have HZ2 := hid hz2
      have h63 : c' ≤ 9223372036854775807 := by unfold maxLen at hc2; omega
      clear hv hcl hA hvl hfin hsl hdl hll hmin hs1 hiv hzl hti rsh rv hzz hz2 hoc
      go_enter Tryz.func137, Tryz.ntmps137
      go_wp2_with (first
        | (at_builtin; refine Lib.wpList_append_run _ rfl (.tmp 34) (.tmp 39) 24 3 rfl _ _ rfl rfl _ _ hrun ?_)
        | (refine wpl_copy_row (b := g) (o := 0) (p := i * 1) (d := n + 1 - i) (dc := c' - i) (m := 1) (cx := 1) rfl (.tmp 43) (.tmp 44) rfl Tryz.elem24 (by first | rfl | simp [Act.eval]) rfl s1 hvl1.out hpp (fun j u hu => by rw [add_plain']; exact (St.pick 2 s1).rowCell hu) h1v ?_; rintro w3 s3))
      go_still_tail 8, (by kernel_rfl)
      change wpList _ _ _ _ _ w3.drew
      have s4 := s3.drew
      generalize w3.drew = w4 at s4 ⊢
      have hoc4 : ∀ j u, (cs.drop (i * 1))[j]? = some u → w4.cell? ((⟨b, o + i * 1, none⟩ : Addr).add j) = some u := fun j u hu => by
        rw [add_plain', Nat.add_assoc]
        rw [List.getElem?_drop] at hu
        exact (OwnS.rd (St.pick 1 s4)).at hu
      go_wp2_with (refine wpl_copy_row (b := g) (o := 0) (p := (i + 1) * 1) (d := n - i) (dc := c' - (i + 1)) (m := n - i) (cx := n - i) rfl (.tmp 50) (.tmp 53) rfl Tryz.elem24 (by first | rfl | simp [Act.eval]) (by first | rfl | simp [Act.eval]) s4 HLL.out hpp2 hoc4 h1c ?_; rintro w5 s5)
      refine HK.out _ _ _ (OwnS.close (sp := zs.drop (1 + (cs.length - i * 1))) ⟨?_, ?_, hc1, hc2, by simp, fun _ => ⟨_, _, rfl⟩, ?_⟩ ?_)
      · simp only [List.length_append, HTI.out, HDL.out, HVL.out]
        rw [Nat.sub_mul, Nat.add_mul]; have := Nat.mul_le_mul_right 1 hi; omega
      · rw [List.length_drop, HZL.out, HL.out, ← Nat.sub_mul, Nat.add_comm, ← Nat.succ_mul, ← Nat.sub_mul]; congr 1; omega
      · intro u hu
        simp only [List.mem_append] at hu
        rcases hu with (hu | hu) | hu
        · exact hrd.one u (List.mem_of_mem_take hu)
        · exact h1v u hu
        · exact hrd.one u (List.mem_of_mem_drop hu)
      · rw [HF.out] at s5
        exact St.takeDrop12 s5


end Go.Proofs.YtbpdchaeakihkaaGreat

/- views: a set of nodes in memory: has, full, drop, add. -/
namespace Go.Proofs.YtbpdchaeakihkaaGreat
open Go.RowKit Go.Qd

theorem ivs_cell {w : World} {b o n c : Nat} {zs : List Int} (rd : RdS w 1 (some ⟨b, o, none⟩) n c (ivs zs)) : ∀ j, j < zs.length → w.cell? ⟨b, o + j, none⟩ = some (.int .i64 (zs.getD j 0)) := fun j hj => by
  rw [rd.at (ivs_get hj)]; simp [hj]

theorem contains_c {post : Ending → World → Prop} {w : World} {ao : Option Addr} {n c : Nat} {zs : List Int} {x : Int} (rd : RdS w 1 ao n c (ivs zs))
    (K : post (.returned (.bool (memB zs x))) w) : Calls Tryz.prog 98 #[.slice ao n c, .int .i64 x] w post := by
  have hl := ivs_len rd
  rcases Nat.eq_zero_or_pos n with h | h
  · subst h
    have : zs = [] := List.eq_nil_of_length_eq_zero hl
    subst this
    refine (Tryz.slices_Contains_int_empty ao c x w).mono ?_
    rintro e w' ⟨rfl, rfl⟩
    exact K
  · obtain ⟨b, o, rfl⟩ := rd.addr h
    refine (Tryz.slices_Contains_int b o n c zs x w (by omega) rd.big (ivs_cell rd)).mono ?_
    rintro e w' ⟨rfl, rfl⟩
    rw [List.take_of_length_le (by omega)]
    exact K

theorem search_c {W w : World} {R : List HP} {post : Ending → World → Prop} {ao : Option Addr} {n c : Nat} {zs : List Int} {x : Int} (st : St W w R) (rd : RdS w 1 ao n c (ivs zs)) (hs : zs.Pairwise (· < ·)) (hn : n ≤ 4096)
    (K : ∀ w', St W w' R → post (.returned (.tuple #[.int .i64 (zs.countP (· < x) : Nat), .bool (memB zs x)])) w') : Calls Tryz.prog 136 #[.slice ao n c, .int .i64 x] w post := by
  have hl := ivs_len rd
  rcases Nat.eq_zero_or_pos n with h | h
  · subst h
    have : zs = [] := List.eq_nil_of_length_eq_zero hl
    subst this
    refine (Tryz.slices_BinarySearch_int_empty ao c x w).mono ?_
    rintro e w' ⟨rfl, rfl⟩
    exact K _ st
  · obtain ⟨b, o, rfl⟩ := rd.addr h
    have ht : zs.take n = zs := List.take_of_length_le (by omega)
    refine (Tryz.slices_BinarySearch_int b o n c zs x w (by omega) (by omega) (ivs_cell rd) (by rw [ht]; exact hs.imp (fun h => Int.le_of_lt h))).mono ?_
    rintro e w' ⟨rfl, q, rfl⟩
    rw [ht]
    exact K _ (st.drewN q)

/-- A set of nodes. -/
def SetA (b o : Nat) (l : List Int) (most : Int) : HP := fun h => ∃ x : Option Addr × Nat × Nat, sepL [row b o [.slice x.1 x.2.1 x.2.2, iv most], OwnS 1 x.1 x.2.1 x.2.2 (ivs l)] h

theorem SetA.open {W w : World} {R : List HP} {b o : Nat} {l : List Int} {most : Int} (st : St W w (SetA b o l most :: R)) :
    ∃ ao n c, St W w (row b o [.slice ao n c, iv most] :: OwnS 1 ao n c (ivs l) :: R) := by
  obtain ⟨x, s⟩ := St.ex (F := fun (x : Option Addr × Nat × Nat) h => sepL [row b o [.slice x.1 x.2.1 x.2.2, iv most], OwnS 1 x.1 x.2.1 x.2.2 (ivs l)] h) st
  exact ⟨_, _, _, (St.flat _).1 s⟩

theorem SetA.close {W w : World} {R : List HP} {b o : Nat} {l : List Int} {most : Int} {ao : Option Addr} {n c : Nat} (st : St W w (row b o [.slice ao n c, iv most] :: OwnS 1 ao n c (ivs l) :: R)) : St W w (SetA b o l most :: R) :=
  ((St.flat [row b o [.slice ao n c, iv most], OwnS 1 ao n c (ivs l)]).2 st).imp fun _ x => ⟨(ao, n, c), x⟩

theorem row2 {W w : World} {R : List HP} {b o : Nat} {x y : Value} (s : St W w (row b o [x, y] :: R)) : w.cell? ⟨b, o, none⟩ = some x ∧ w.cell? ⟨b, o + 1, none⟩ = some y ∧ w.frozen? ⟨b, o, none⟩ = false :=
  ⟨by have := s.rowCell (i := 0) rfl; exact this, s.rowCell (i := 1) rfl, by have := s.rowFree (i := 0) (by simp); exact this⟩

theorem has_c {W w : World} {R : List HP} {post : Ending → World → Prop} {b o : Nat} {l : List Int} {most p : Int} (st : St W w (SetA b o l most :: R))
    (K : post (.returned (.bool (memB l p))) w) : Calls Tryz.prog 87 #[.pointer (some ⟨b, o, none⟩), .int .i64 p] w post := by
  have HK := hid K; clear K
  obtain ⟨ao, n, c, s⟩ := SetA.open st
  obtain ⟨h0, _, _⟩ := row2 s
  have rd := OwnS.rd (St.pick 1 s)
  go_enter Tryz.func87, Tryz.ntmps87
  go_wp2_with (go_at_call 98; refine contains_c rd ?_)
  exact HK.out

theorem full_c {W w : World} {R : List HP} {post : Ending → World → Prop} {b o : Nat} {l : List Int} {most : Int} (st : St W w (SetA b o l most :: R))
    (K : ∀ w', St W w' (SetA b o l most :: R) → post (.returned (.bool (decide (most ≤ l.length)))) w') : Calls Tryz.prog 135 #[.pointer (some ⟨b, o, none⟩)] w post := by
  have HK := hid K; clear K
  obtain ⟨ao, n, c, s⟩ := SetA.open st
  obtain ⟨h0, h1, _⟩ := row2 s
  have rd := OwnS.rd (St.pick 1 s)
  have hl := ivs_len rd
  rw [hl] at HK
  have hbig := rd.big
  clear hl
  go_enter Tryz.func135, Tryz.ntmps135
  go_wp2_with fail
  go_quiet (fail)
  go_wp2
  exact HK.out _ (st.drewN nq)

theorem drop_c {W w : World} {R : List HP} {post : Ending → World → Prop} {b o : Nat} {l : List Int} {most p : Int} (st : St W w (SetA b o l most :: R)) (hs : l.Pairwise (· < ·)) (hn : l.length ≤ 4096)
    (K : ∀ w', St W w' (SetA b o (dropL l p) most :: R) → post (.returned (.bool (memB l p))) w') : Calls Tryz.prog 134 #[.pointer (some ⟨b, o, none⟩), .int .i64 p] w post := by
  have HK := hid K; clear K
  obtain ⟨ao, n, c, s⟩ := SetA.open st
  obtain ⟨h0, _, _⟩ := row2 s
  have rd := OwnS.rd (St.pick 1 s)
  have hl := ivs_len rd
  have hn4 : n ≤ 4096 := by omega
  by_cases hp : p ∈ l
  · have hc : memB l p = true := memB_yes hp
    obtain ⟨h1, h2⟩ := dropL_eq hs hp
    have HH := hid h1
    have hi : l.countP (· < p) < n := by omega
    obtain ⟨i, hi'⟩ : ∃ i, l.countP (· < p) = i := ⟨_, rfl⟩
    rw [hi'] at HH hi
    rw [hc] at HK
    have HI := hid hi'; have HC := hid hc
    clear hi' h1 h2 hc hp hl hn
    have HS := hid hs
    clear hs
    go_enter Tryz.func134, Tryz.ntmps134
    go_wp2_with (first
      | (go_at_call 136; refine search_c s rd HS.out hn4 ?_; rintro w1 s1; rw [HI.out, HC.out]; obtain ⟨g0, _, gf⟩ := row2 s1)
      | (go_at_call 139; refine deleteI_c (St.pick 1 s1) hi (by omega) ?_; rintro a2 c2 w2 s2; obtain ⟨k0, _, kf⟩ := row2 (St.pick 1 s2)))
    have e : (ivs l).take (i * 1) ++ (ivs l).drop ((i + 1) * 1) = ivs (dropL l p) := by
      rw [← HH.out]; simp [ivs, List.map_take, List.map_drop]
    rw [e] at s2
    have s3 := (St.pick 1 s2).rowSet (i := 0) (by simp) (.slice a2 (n - 1) c2)
    exact HK.out _ (SetA.close s3)
  · have hc : memB l p = false := memB_no hp
    rw [dropL_out hp, hc] at HK
    have HC := hid hc
    have HS := hid hs
    clear hc hp hl hn hs
    go_enter Tryz.func134, Tryz.ntmps134
    go_wp2_with (go_at_call 136; refine search_c s rd HS.out hn4 ?_; rintro w1 s1; rw [HC.out])
    exact HK.out _ (SetA.close s1)

end Go.Proofs.YtbpdchaeakihkaaGreat

/- views: add. -/
namespace Go.Proofs.YtbpdchaeakihkaaGreat
open Go.RowKit Go.Qd

theorem ivs_ins {l : List Int} (hs : l.Pairwise (· < ·)) (p : Int) {i : Nat} (hi : l.countP (· < p) = i) : (ivs l).take (i * 1) ++ [iv p] ++ (ivs l).drop (i * 1) = ivs (insL l p) := by
  rw [← insL_eq hs p, hi]; simp [ivs, List.map_take, List.map_drop]

theorem add_room {W w : World} {R : List HP} {post : Ending → World → Prop} {b o d : Nat} {l : List Int} {most p : Int} (st : St W w (SetA b o l most :: R)) (hs : l.Pairwise (· < ·)) (hn : l.length ≤ 4095) (hf : (l.length : Int) < most)
    (K : ∀ w', St W w' (SetA b o (insL l p) most :: R) → post (.returned (.int .i64 (-1))) w') : Calls Tryz.prog 88 #[.pointer (some ⟨b, o, none⟩), .int .i64 p, .pointer (some ⟨d, 0, none⟩)] w post := by
  have HK := hid K; clear K
  have hfl := hid (show decide (most ≤ (l.length : Int)) = false by rw [decide_eq_false_iff_not]; omega)
  obtain ⟨i, hi'⟩ : ∃ i, l.countP (· < p) = i := ⟨_, rfl⟩
  have hil : i ≤ l.length := by rw [← hi']; exact List.countP_le_length
  have HI := hid hi'; have HS := hid hs
  have HE := hid (ivs_ins hs p hi')
  clear hi' hf hs
  go_enter Tryz.func88, Tryz.ntmps88
  go_wp2_with (go_at_call 135; refine full_c st ?_; rintro w1 s1; rw [hfl.out]; obtain ⟨ao, n, c, s2⟩ := SetA.open s1; obtain ⟨h0, _, _⟩ := row2 s2; have rd := OwnS.rd (St.pick 1 s2); have hl := ivs_len rd; have hn4 : n ≤ 4095 := (by omega); have hin : i ≤ n := (by omega); clear hl)
  go_wp2_with (first
    | (go_at_call 136; refine search_c s2 rd HS.out (by omega) ?_; rintro w3 s3; rw [HI.out]; obtain ⟨g0, _, _⟩ := row2 s3; have s4 := s3.alloc #[.int .i64 p] 3; have s5 : St W _ (OwnS 1 ao n c (ivs l) :: row w3.heap.size 0 [iv p] :: _) := (s4.perm [2, 0]))
    | (go_at_call 137; refine insertI_c s5 (heap_alloc_new _ _) rfl rfl (by simp [Value.oneCell']) hin (by omega) ?_; rintro a6 c6 w6 s6; rw [HE.out] at s6; obtain ⟨k0, _, kf⟩ := row2 (St.pick 1 s6)))
  have s7 := (St.pick 1 s6).rowSet (i := 0) (by simp) (.slice a6 (n + 1) c6)
  exact HK.out _ (SetA.close s7)

/-- What gives way to a new one, and what dice are left. -/
def goneV (D l : List Int) : Int := pickV D l
def addL (D l : List Int) (most p : Int) : List Int := if most ≤ l.length then insL (dropL l (pickV D l)) p else insL l p
def addD (D l : List Int) (most : Int) : List Int := if most ≤ l.length then drawL D l.length else D
def addG (D l : List Int) (most : Int) : Int := if most ≤ l.length then pickV D l else -1

theorem pickV_mem {D l : List Int} (h : l ≠ []) : pickV D l ∈ l := by
  have hl : 0 < l.length := List.length_pos_iff.2 h
  obtain ⟨h1, h2⟩ := drawV_range (l := D) (n := (l.length : Int)) (by omega)
  unfold pickV
  have : (drawV D l.length).toNat < l.length := by omega
  simp [List.getD, this]

theorem add_full {W w : World} {R : List HP} {post : Ending → World → Prop} {b o d : Nat} {l D : List Int} {most p : Int} (st : St W w (SetA b o l most :: DiceA d D :: R)) (hs : l.Pairwise (· < ·)) (hn : l.length ≤ 4095) (hf : most ≤ l.length) (hne : l ≠ [])
    (K : ∀ w', St W w' (SetA b o (insL (dropL l (pickV D l)) p) most :: DiceA d (drawL D l.length) :: R) → post (.returned (.int .i64 (pickV D l))) w') : Calls Tryz.prog 88 #[.pointer (some ⟨b, o, none⟩), .int .i64 p, .pointer (some ⟨d, 0, none⟩)] w post := by
  have HK := hid K; clear K
  have hfl := hid (show decide (most ≤ (l.length : Int)) = true by rw [decide_eq_true_iff]; omega)
  have hm := pickV_mem (D := D) hne
  obtain ⟨q, hq⟩ : ∃ q, pickV D l = q := ⟨_, rfl⟩
  rw [hq] at HK hm
  have HQ := hid hq
  clear hq
  have hsd := dropL_sorted hs q
  have hld := dropL_len hs hm
  have hHS := hid hs; have HNE := hid hne
  obtain ⟨m, hml⟩ : ∃ m, dropL l q = m := ⟨_, rfl⟩
  rw [hml] at HK hsd hld
  have HM := hid hml
  obtain ⟨i, hi'⟩ : ∃ i, m.countP (· < p) = i := ⟨_, rfl⟩
  have hil : i ≤ m.length := by rw [← hi']; exact List.countP_le_length
  have HI := hid hi'; have HSD := hid hsd
  have HE := hid (ivs_ins hsd p hi')
  have hmn : m.length ≤ 4095 := by omega
  have HLN := hid hn
  clear hi' hf hs hml hld hm hne hn hsd
  go_enter Tryz.func88, Tryz.ntmps88
  go_wp2_with (first
    | (go_at_call 135; refine full_c st ?_; rintro w1 s1; rw [hfl.out]; obtain ⟨ao, n, c, s2⟩ := SetA.open s1; obtain ⟨h0, _, _⟩ := row2 s2)
    | (go_at_call 90; refine pick_c (St.pick 2 s2) (fun w' s' => OwnS.rd (St.pick 1 s')) ?_; rintro w3 s3; rw [if_neg HNE.out] at s3; rw [if_neg HNE.out, HQ.out]; have s4 := SetA.close (s3.perm [1, 1]))
    | (go_at_call 134; refine drop_c s4 hHS.out (Nat.le_trans HLN.out (by omega)) ?_; rintro w5 s5; rw [HM.out] at s5; obtain ⟨a6, n6, c6, s6⟩ := SetA.open s5; obtain ⟨g0, _, _⟩ := row2 s6; have rd := OwnS.rd (St.pick 1 s6); have hl := ivs_len rd; have hn4 : n6 ≤ 4095 := (by omega); have hin : i ≤ n6 := (by omega); clear hl))
  go_wp2_with (first
    | (go_at_call 136; refine search_c s6 rd HSD.out (by omega) ?_; rintro w7 s7; rw [HI.out]; obtain ⟨k0, _, _⟩ := row2 s7; have s8 := s7.alloc #[.int .i64 p] 3; have s9 : St W _ (OwnS 1 a6 n6 c6 (ivs m) :: row w7.heap.size 0 [iv p] :: _) := (s8.perm [2, 0]))
    | (go_at_call 137; refine insertI_c s9 (heap_alloc_new _ _) rfl rfl (by simp [Value.oneCell']) hin (by omega) ?_; rintro aA cA wA sA; rw [HE.out] at sA; obtain ⟨j0, _, jf⟩ := row2 (St.pick 1 sA)))
  have sB := (St.pick 1 sA).rowSet (i := 0) (by simp) (.slice aA (n6 + 1) cA)
  exact HK.out _ (SetA.close sB)

theorem add_c {W w : World} {R : List HP} {post : Ending → World → Prop} {b o d : Nat} {l D : List Int} {most p : Int} (st : St W w (SetA b o l most :: DiceA d D :: R)) (hs : l.Pairwise (· < ·)) (hn : l.length ≤ 4095) (hm : 1 ≤ most)
    (K : ∀ w', St W w' (SetA b o (addL D l most p) most :: DiceA d (addD D l most) :: R) → post (.returned (.int .i64 (addG D l most))) w') : Calls Tryz.prog 88 #[.pointer (some ⟨b, o, none⟩), .int .i64 p, .pointer (some ⟨d, 0, none⟩)] w post := by
  unfold addL addD addG at K
  by_cases h : most ≤ l.length
  · simp only [h, if_true] at K
    exact add_full st hs hn h (fun e => by subst e; simp at h; omega) K
  · simp only [h, if_false] at K
    exact add_room st hs hn (by omega) K

end Go.Proofs.YtbpdchaeakihkaaGreat

/- views: Views in memory, and what its methods do. -/
namespace Go.Proofs.YtbpdchaeakihkaaGreat
open Go.RowKit Go.Qd

structure VV where
  self : Int
  a : List Int
  am : Int
  p : List Int
  pm : Int

def ViewsA (b : Nat) (V : VV) : HP := sepL [pt b 0 (iv V.self), SetA b 1 V.a V.am, SetA b 3 V.p V.pm]

def nodeB (p : Int) : Bool := decide (0 ≤ p) && decide (p < 12)
theorem nodeB_iff {p : Int} : nodeB p = true ↔ 0 ≤ p ∧ p < 12 := by simp [nodeB]

structure VOK (V : VV) : Prop where
  sa : V.a.Pairwise (· < ·)
  sp : V.p.Pairwise (· < ·)
  am : 1 ≤ V.am ∧ V.am ≤ 11
  pm : 1 ≤ V.pm ∧ V.pm ≤ 11
  la : (V.a.length : Int) ≤ V.am
  lp : (V.p.length : Int) ≤ V.pm
  na : ∀ x ∈ V.a, nodeB x = true ∧ x ≠ V.self
  np : ∀ x ∈ V.p, nodeB x = true ∧ x ≠ V.self
  dis : ∀ x ∈ V.a, x ∉ V.p

theorem VOK.na4 {V : VV} (h : VOK V) : V.a.length ≤ 4095 := by have := h.la; have := h.am; omega
theorem VOK.np4 {V : VV} (h : VOK V) : V.p.length ≤ 4095 := by have := h.lp; have := h.pm; omega

section
variable {W w : World} {R : List HP} {post : Ending → World → Prop} {b d : Nat} {V : VV} {D : List Int}

theorem ViewsA.open (st : St W w (ViewsA b V :: R)) : St W w (pt b 0 (iv V.self) :: SetA b 1 V.a V.am :: SetA b 3 V.p V.pm :: R) := (St.flat _).1 st
theorem ViewsA.close {self am pm : Int} {a p : List Int} (st : St W w (pt b 0 (iv self) :: SetA b 1 a am :: SetA b 3 p pm :: R)) : St W w (ViewsA b ⟨self, a, am, p, pm⟩ :: R) := (St.flat [pt b 0 (iv self), SetA b 1 a am, SetA b 3 p pm]).2 st

theorem node_c {p : Int} (K : post (.returned (.bool (nodeB p))) w) : Calls Tryz.prog 82 #[.int .i64 p] w post := by
  unfold nodeB at K
  by_cases h : 0 ≤ p
  · rw [decide_eq_true h, Bool.true_and] at K
    have HK := hid K; clear K
    go_enter Tryz.func82, Tryz.ntmps82
    go_wp2
    exact HK.out
  · rw [decide_eq_false h, Bool.false_and] at K
    have HK := hid K; clear K
    go_enter Tryz.func82, Tryz.ntmps82
    go_wp2
    exact HK.out

theorem views_new_c {self am pm : Int} (st : St W w R) (h : nodeB self = true ∧ (1 ≤ am ∧ am < 12) ∧ (1 ≤ pm ∧ pm < 12))
    (K : ∀ b w', St W w' (ViewsA b ⟨self, [], am, [], pm⟩ :: R) → post (.returned (.tuple #[.pointer (some ⟨b, 0, none⟩), .int .i64 0])) w') : Calls Tryz.prog 40 #[.int .i64 self, .int .i64 am, .int .i64 pm] w post := by
  have HK := hid K; clear K
  obtain ⟨h1, ⟨h2, h3⟩, h4, h5⟩ := h
  have H1 := hid h1
  have H2 := hid (show nodeB am = true by rw [nodeB_iff]; omega)
  have H3 := hid (show nodeB pm = true by rw [nodeB_iff]; omega)
  clear h1
  go_enter Tryz.func40, Tryz.ntmps40
  go_wp2_with (go_at_call 82; refine node_c ?_; first | rw [H1.out] | rw [H2.out] | rw [H3.out])
  have s1 := st.alloc #[.int .i64 self, .slice none 0 0, .int .i64 am, .slice none 0 0, .int .i64 pm] 119
  have s2 := St.rowCons.1 s1
  have s3 : St W _ (row w.heap.size 1 [.slice none 0 0, iv am] :: row w.heap.size 3 [.slice none 0 0, iv pm] :: pt w.heap.size 0 (iv self) :: R) := (St.rowAppend.1 (St.pick 1 s2 : St W _ (row w.heap.size 1 ([.slice none 0 0, iv am] ++ [.slice none 0 0, iv pm]) :: _)))
  have s4 := SetA.close (l := []) ((OwnS.none0 (sz := 1) s3).perm [1])
  have s5 := SetA.close (l := []) ((OwnS.none0 (sz := 1) (St.pick 1 s4)).perm [1])
  exact HK.out _ _ (ViewsA.close (s5.perm [2, 1]))

theorem views_new_no {self am pm : Int} (h : ¬ (nodeB self = true ∧ (1 ≤ am ∧ am < 12) ∧ (1 ≤ pm ∧ pm < 12)))
    (K : post (.returned (.tuple #[.pointer none, .int .i64 1])) w) : Calls Tryz.prog 40 #[.int .i64 self, .int .i64 am, .int .i64 pm] w post := by
  have HK := hid K; clear K
  obtain ⟨x, hx⟩ : ∃ x, nodeB self = x := ⟨_, rfl⟩
  obtain ⟨y, hy⟩ : ∃ y, nodeB am = y := ⟨_, rfl⟩
  obtain ⟨z, hz⟩ : ∃ z, nodeB pm = z := ⟨_, rfl⟩
  have HX := hid hx; have HY := hid hy; have HZ := hid hz; have HH := hid h
  clear hx hy hz h
  cases x with
  | false =>
    go_enter Tryz.func40, Tryz.ntmps40
    go_wp2_with (go_at_call 82; refine node_c (p := self) ?_; rw [HX.out])
    exact HK.out
  | true =>
    cases y with
    | false =>
      go_enter Tryz.func40, Tryz.ntmps40
      go_wp2_with (go_at_call 82; refine node_c ?_; first | rw [HX.out] | rw [HY.out])
      exact HK.out
    | true =>
      cases z with
      | false =>
        go_enter Tryz.func40, Tryz.ntmps40
        go_wp2_with (go_at_call 82; refine node_c ?_; first | rw [HX.out] | rw [HY.out] | rw [HZ.out])
        exact HK.out
      | true =>
        have hor : am < 1 ∨ pm < 1 := by
          have h1 := HH.out
          have h2 := nodeB_iff.1 HY.out
          have h3 := nodeB_iff.1 HZ.out
          rw [HX.out] at h1
          simp only [true_and] at h1
          omega
        by_cases ha : am < 1
        · clear hor
          go_enter Tryz.func40, Tryz.ntmps40
          go_wp2_with (go_at_call 82; refine node_c ?_; first | rw [HX.out] | rw [HY.out] | rw [HZ.out])
          exact HK.out
        · have hp : pm < 1 := by omega
          clear hor
          go_enter Tryz.func40, Tryz.ntmps40
          go_wp2_with (go_at_call 82; refine node_c ?_; first | rw [HX.out] | rw [HY.out] | rw [HZ.out])
          exact HK.out

theorem isActive_c {p : Int} (st : St W w (ViewsA b V :: R)) (K : post (.returned (.bool (memB V.a p))) w) : Calls Tryz.prog 46 #[.pointer (some ⟨b, 0, none⟩), .int .i64 p] w post := by
  have HK := hid K; clear K
  have s := St.pick 1 (ViewsA.open st)
  go_enter Tryz.func46, Tryz.ntmps46
  go_wp2_with (go_at_call 87; refine has_c s ?_)
  exact HK.out


theorem vfull_c (st : St W w (ViewsA b V :: R)) (K : ∀ w', St W w' (ViewsA b V :: R) → post (.returned (.bool (decide (V.am ≤ V.a.length)))) w') : Calls Tryz.prog 100 #[.pointer (some ⟨b, 0, none⟩)] w post := by
  have HK := hid K; clear K
  have s := St.pick 1 (ViewsA.open st)
  go_enter Tryz.func100, Tryz.ntmps100
  go_wp2_with (go_at_call 135; refine full_c s ?_; rintro w1 s1)
  exact HK.out _ (ViewsA.close (St.pick 1 s1))

theorem active_c (st : St W w (ViewsA b V :: R)) (hl : V.a.length ≤ 4096) (K : ∀ ao c w', St W w' (OwnS 1 ao V.a.length c (ivs V.a) :: ViewsA b V :: R) → post (.returned (.slice ao V.a.length c)) w') : Calls Tryz.prog 16 #[.pointer (some ⟨b, 0, none⟩)] w post := by
  have HK := hid K; clear K
  obtain ⟨ao, n, c, s⟩ := SetA.open (St.pick 1 (ViewsA.open st))
  obtain ⟨h0, _, _⟩ := row2 s
  have rd := OwnS.rd (St.pick 1 s)
  have hn := ivs_len rd
  rw [hn] at HK hl
  clear hn
  go_enter Tryz.func16, Tryz.ntmps16
  go_wp2_with (go_at_call 41; refine clone_c st rd (by omega) ?_; rintro a1 c1 w1 s1)
  exact HK.out _ _ _ s1

theorem passive_c (st : St W w (ViewsA b V :: R)) (hl : V.p.length ≤ 4096) (K : ∀ ao c w', St W w' (OwnS 1 ao V.p.length c (ivs V.p) :: ViewsA b V :: R) → post (.returned (.slice ao V.p.length c)) w') : Calls Tryz.prog 21 #[.pointer (some ⟨b, 0, none⟩)] w post := by
  have HK := hid K; clear K
  obtain ⟨ao, n, c, s⟩ := SetA.open (St.pick 2 (ViewsA.open st))
  obtain ⟨h0, _, _⟩ := row2 s
  have rd := OwnS.rd (St.pick 1 s)
  have hn := ivs_len rd
  rw [hn] at HK hl
  clear hn
  go_enter Tryz.func21, Tryz.ntmps21
  go_wp2_with (go_at_call 41; refine clone_c st rd (by omega) ?_; rintro a1 c1 w1 s1)
  exact HK.out _ _ _ s1

end

end Go.Proofs.YtbpdchaeakihkaaGreat

/- views: Raise, Lower, Learn. -/
namespace Go.Proofs.YtbpdchaeakihkaaGreat
open Go.RowKit Go.Qd

theorem memB_false {l : List Int} {p : Int} (h : memB l p = false) : p ∉ l := fun g => by rw [memB_yes g] at h; cases h

theorem addL_mem {D l : List Int} {m p x : Int} : x ∈ addL D l m p ↔ x = p ∨ (x ∈ l ∧ (m ≤ l.length → x ≠ pickV D l)) := by
  unfold addL
  split
  · rename_i h; simp only [mem_insL, mem_dropL, h, true_implies]; exact Or.comm
  · rename_i h; simp only [mem_insL, h, false_implies, and_true]; exact Or.comm
theorem addL_sorted {D l : List Int} {m p : Int} (h : l.Pairwise (· < ·)) (hp : p ∉ l) : (addL D l m p).Pairwise (· < ·) := by
  unfold addL
  split
  · exact insL_sorted (dropL_sorted h _) (fun g => hp (mem_dropL.1 g).1)
  · exact insL_sorted h hp
theorem addL_len {D l : List Int} {m p : Int} (h : l.Pairwise (· < ·)) (hm : 1 ≤ m) (hl : (l.length : Int) ≤ m) : ((addL D l m p).length : Int) ≤ m ∧ (m ≤ l.length → (addL D l m p).length = l.length) ∧ (¬ m ≤ l.length → (addL D l m p).length = l.length + 1) := by
  unfold addL
  by_cases hf : m ≤ l.length
  · have hne : l ≠ [] := fun e => by subst e; simp at hf; omega
    have := dropL_len h (pickV_mem (D := D) hne)
    simp only [hf, if_true, insL_len]
    exact ⟨by omega, fun _ => by omega, fun h => absurd trivial h⟩
  · simp only [hf, if_false, insL_len]
    exact ⟨by omega, fun h => absurd h id, fun _ => trivial⟩

/-- What Raise leaves. -/
def raiseOk (V : VV) (q : Int) : Bool := nodeB q && decide (q ≠ V.self) && !memB V.a q
def raiseA (V : VV) (D : List Int) (q : Int) : List Int := addL D V.a V.am q
def raiseG (V : VV) (D : List Int) : Int := addG D V.a V.am
def raiseD1 (V : VV) (D : List Int) : List Int := addD D V.a V.am
def raiseV (V : VV) (D : List Int) (q : Int) : VV :=
  if raiseOk V q then { V with a := raiseA V D q, p := if 0 ≤ raiseG V D then addL (raiseD1 V D) (dropL V.p q) V.pm (raiseG V D) else dropL V.p q } else V
def raiseD (V : VV) (D : List Int) (q : Int) : List Int :=
  if raiseOk V q then (if 0 ≤ raiseG V D then addD (raiseD1 V D) (dropL V.p q) V.pm else raiseD1 V D) else D

def lowerV (V : VV) (D : List Int) (q : Int) : VV := if memB V.a q then { V with a := dropL V.a q, p := addL D V.p V.pm q } else V
def lowerD (V : VV) (D : List Int) (q : Int) : List Int := if memB V.a q then addD D V.p V.pm else D
def learnOk (V : VV) (q : Int) : Bool := nodeB q && decide (q ≠ V.self) && !memB V.a q && !memB V.p q
def learnV (V : VV) (D : List Int) (q : Int) : VV := if learnOk V q then { V with p := addL D V.p V.pm q } else V
def learnD (V : VV) (D : List Int) (q : Int) : List Int := if learnOk V q then addD D V.p V.pm else D

theorem dropL_le (l : List Int) (p : Int) : (dropL l p).length ≤ l.length := List.length_filter_le _ _

section
variable {W w : World} {R : List HP} {post : Ending → World → Prop} {b d : Nat} {V : VV} {D : List Int} {q : Int}

theorem raise_no (st : St W w (ViewsA b V :: DiceA d D :: R)) (h : raiseOk V q = false) (K : post (.returned (.tuple #[.int .i64 (-1), .bool false])) w) :
    Calls Tryz.prog 85 #[.pointer (some ⟨b, 0, none⟩), .int .i64 q, .pointer (some ⟨d, 0, none⟩)] w post := by
  have HK := hid K; clear K
  have s0 := ViewsA.open st
  have s1 := St.pick 1 s0
  have hc := s0.cell
  obtain ⟨x, hx⟩ : ∃ x, nodeB q = x := ⟨_, rfl⟩
  obtain ⟨z, hz⟩ : ∃ z, memB V.a q = z := ⟨_, rfl⟩
  unfold raiseOk at h
  have HX := hid hx; have HZ := hid hz
  rw [hx, hz] at h
  clear hx hz
  cases x with
  | false =>
    clear h
    go_enter Tryz.func85, Tryz.ntmps85
    go_wp2_with (go_at_call 82; refine node_c ?_; rw [HX.out])
    exact HK.out
  | true =>
    by_cases hq : q = V.self
    · subst hq
      clear h
      go_enter Tryz.func85, Tryz.ntmps85
      go_wp2_with (go_at_call 82; refine node_c ?_; rw [HX.out])
      exact HK.out
    · have hq' : (q == V.self) = false := by simpa using hq
      cases z with
      | false => simp [hq] at h
      | true =>
        clear h hq
        go_enter Tryz.func85, Tryz.ntmps85
        go_wp2_with (first
          | (go_at_call 82; refine node_c ?_; rw [HX.out])
          | (go_at_call 87; refine has_c s1 ?_; rw [HZ.out]))
        exact HK.out

theorem raise_yes (st : St W w (ViewsA b V :: DiceA d D :: R)) (hV : VOK V) (h : raiseOk V q = true)
    (K : ∀ w', St W w' (ViewsA b (raiseV V D q) :: DiceA d (raiseD V D q) :: R) → post (.returned (.tuple #[.int .i64 (raiseG V D), .bool true])) w') :
    Calls Tryz.prog 85 #[.pointer (some ⟨b, 0, none⟩), .int .i64 q, .pointer (some ⟨d, 0, none⟩)] w post := by
  unfold raiseV raiseD at K
  simp only [h, if_true] at K
  have HK := hid K; clear K
  have s0 := ViewsA.open st
  have s1 := St.pick 1 s0
  have hc := s0.cell
  unfold raiseOk at h
  simp only [Bool.and_eq_true, decide_eq_true_eq, Bool.not_eq_true'] at h
  obtain ⟨⟨hx, hq⟩, hz⟩ := h
  have HX := hid hx; have HZ := hid hz
  have hq' : (q == V.self) = false := by simpa using hq
  have HV := hid hV
  have hl2 := hid (Nat.le_trans (dropL_le V.p q) hV.np4)
  clear hx hz hq hV
  obtain ⟨g, hg⟩ : ∃ g, raiseG V D = g := ⟨_, rfl⟩
  rw [hg] at HK
  have HG := hid (show addG D V.a V.am = g from hg)
  clear hg
  by_cases h0 : 0 ≤ g
  · simp only [h0, if_true] at HK
    go_enter Tryz.func85, Tryz.ntmps85
    go_wp2_with (first
      | (go_at_call 82; refine node_c ?_; rw [HX.out])
      | (go_at_call 87; refine has_c s1 ?_; rw [HZ.out])
      | (go_at_call 134; refine drop_c (St.pick 2 s0) HV.out.sp (Nat.le_trans HV.out.np4 (by omega)) ?_; rintro w2 s2; have s3 := s2.perm [2, 2])
      | (go_at_call 88; refine add_c s3 HV.out.sa HV.out.na4 HV.out.am.1 ?_; rintro w4 s4; rw [HG.out]; have s5 := s4.perm [2, 1])
      | (go_at_call 88; refine add_c s5 (dropL_sorted HV.out.sp q) hl2.out HV.out.pm.1 ?_; rintro w6 s6))
    exact HK.out _ ((ViewsA.close (s6.perm [3, 2, 0])))
  · simp only [h0, if_false] at HK
    go_enter Tryz.func85, Tryz.ntmps85
    go_wp2_with (first
      | (go_at_call 82; refine node_c ?_; rw [HX.out])
      | (go_at_call 87; refine has_c s1 ?_; rw [HZ.out])
      | (go_at_call 134; refine drop_c (St.pick 2 s0) HV.out.sp (Nat.le_trans HV.out.np4 (by omega)) ?_; rintro w2 s2; have s3 := s2.perm [2, 2])
      | (go_at_call 88; refine add_c s3 HV.out.sa HV.out.na4 HV.out.am.1 ?_; rintro w4 s4; rw [HG.out]))
    exact HK.out _ (ViewsA.close (s4.perm [3, 0, 1]))

theorem lower_c (st : St W w (ViewsA b V :: DiceA d D :: R)) (hV : VOK V) (K : ∀ w', St W w' (ViewsA b (lowerV V D q) :: DiceA d (lowerD V D q) :: R) → post (.returned (.bool (memB V.a q))) w') :
    Calls Tryz.prog 89 #[.pointer (some ⟨b, 0, none⟩), .int .i64 q, .pointer (some ⟨d, 0, none⟩)] w post := by
  have s0 := ViewsA.open st
  obtain ⟨z, hz⟩ : ∃ z, memB V.a q = z := ⟨_, rfl⟩
  unfold lowerV lowerD at K
  rw [hz] at K
  have HZ := hid hz
  have HV := hid hV
  clear hz hV
  cases z with
  | false =>
    simp only [Bool.false_eq_true, if_false] at K
    have HK := hid K; clear K
    go_enter Tryz.func89, Tryz.ntmps89
    go_wp2_with (go_at_call 134; refine drop_c (St.pick 1 s0) HV.out.sa (Nat.le_trans HV.out.na4 (by omega)) ?_; rintro w2 s2; rw [HZ.out]; rw [dropL_out (memB_false HZ.out)] at s2)
    exact HK.out _ (ViewsA.close (St.pick 1 s2))
  | true =>
    simp only [if_true] at K
    have HK := hid K; clear K
    go_enter Tryz.func89, Tryz.ntmps89
    go_wp2_with (first
      | (go_at_call 134; refine drop_c (St.pick 1 s0) HV.out.sa (Nat.le_trans HV.out.na4 (by omega)) ?_; rintro w2 s2; rw [HZ.out]; have s3 := s2.perm [2, 2])
      | (go_at_call 88; refine add_c s3 HV.out.sp HV.out.np4 HV.out.pm.1 ?_; rintro w4 s4))
    exact HK.out _ (ViewsA.close (s4.perm [3, 2, 0]))

theorem learn_no (st : St W w (ViewsA b V :: DiceA d D :: R)) (h : learnOk V q = false) (K : post (.returned (.bool false)) w) :
    Calls Tryz.prog 47 #[.pointer (some ⟨b, 0, none⟩), .int .i64 q, .pointer (some ⟨d, 0, none⟩)] w post := by
  have HK := hid K; clear K
  have s0 := ViewsA.open st
  have s1 := St.pick 1 s0
  have s2 := St.pick 2 s0
  have hc := s0.cell
  obtain ⟨x, hx⟩ : ∃ x, nodeB q = x := ⟨_, rfl⟩
  obtain ⟨z, hz⟩ : ∃ z, memB V.a q = z := ⟨_, rfl⟩
  obtain ⟨y, hy⟩ : ∃ y, memB V.p q = y := ⟨_, rfl⟩
  unfold learnOk at h
  have HX := hid hx; have HZ := hid hz; have HY := hid hy
  rw [hx, hz, hy] at h
  clear hx hz hy
  cases x with
  | false =>
    clear h
    go_enter Tryz.func47, Tryz.ntmps47
    go_wp2_with (go_at_call 82; refine node_c ?_; rw [HX.out])
    exact HK.out
  | true =>
    by_cases hq : q = V.self
    · subst hq
      clear h
      go_enter Tryz.func47, Tryz.ntmps47
      go_wp2_with (go_at_call 82; refine node_c ?_; rw [HX.out])
      exact HK.out
    · have hq' : (q == V.self) = false := by simpa using hq
      cases z with
      | true =>
        clear h hq
        go_enter Tryz.func47, Tryz.ntmps47
        go_wp2_with (first
          | (go_at_call 82; refine node_c ?_; rw [HX.out])
          | (go_at_call 87; refine has_c s1 ?_; rw [HZ.out]))
        exact HK.out
      | false =>
        cases y with
        | false => simp [hq] at h
        | true =>
          clear h hq
          go_enter Tryz.func47, Tryz.ntmps47
          go_wp2_with (first
            | (go_at_call 82; refine node_c ?_; rw [HX.out])
            | (go_at_call 87; refine has_c s1 ?_; rw [HZ.out])
            | (go_at_call 87; refine has_c s2 ?_; rw [HY.out]))
          exact HK.out

theorem learn_yes (st : St W w (ViewsA b V :: DiceA d D :: R)) (hV : VOK V) (h : learnOk V q = true)
    (K : ∀ w', St W w' (ViewsA b (learnV V D q) :: DiceA d (learnD V D q) :: R) → post (.returned (.bool true)) w') :
    Calls Tryz.prog 47 #[.pointer (some ⟨b, 0, none⟩), .int .i64 q, .pointer (some ⟨d, 0, none⟩)] w post := by
  unfold learnV learnD at K
  simp only [h, if_true] at K
  have HK := hid K; clear K
  have s0 := ViewsA.open st
  have s1 := St.pick 1 s0
  have s2 := St.pick 2 s0
  have hc := s0.cell
  unfold learnOk at h
  simp only [Bool.and_eq_true, decide_eq_true_eq, Bool.not_eq_true'] at h
  obtain ⟨⟨⟨hx, hq⟩, hz⟩, hy⟩ := h
  have HX := hid hx; have HZ := hid hz; have HY := hid hy
  have hq' : (q == V.self) = false := by simpa using hq
  have HV := hid hV
  clear hx hz hy hq hV
  go_enter Tryz.func47, Tryz.ntmps47
  go_wp2_with (first
    | (go_at_call 82; refine node_c ?_; rw [HX.out])
    | (go_at_call 87; refine has_c s1 ?_; rw [HZ.out])
    | (go_at_call 87; refine has_c s2 ?_; rw [HY.out])
    | (go_at_call 88; refine add_c (s0.perm [2, 2]) HV.out.sp HV.out.np4 HV.out.pm.1 ?_; rintro w4 s4))
  exact HK.out _ (ViewsA.close (s4.perm [2, 2, 0]))

end

end Go.Proofs.YtbpdchaeakihkaaGreat

/- views: what stays true of views. -/
namespace Go.Proofs.YtbpdchaeakihkaaGreat
open Go.RowKit Go.Qd

theorem VOK.start {self am pm : Int} (h : nodeB self = true ∧ (1 ≤ am ∧ am < 12) ∧ (1 ≤ pm ∧ pm < 12)) : VOK ⟨self, [], am, [], pm⟩ :=
  ⟨List.Pairwise.nil, List.Pairwise.nil, ⟨h.2.1.1, by have := h.2.1.2; show am ≤ 11; omega⟩, ⟨h.2.2.1, by have := h.2.2.2; show pm ≤ 11; omega⟩, by show (0 : Int) ≤ am; omega, by show (0 : Int) ≤ pm; omega, fun _ h => (by cases h), fun _ h => (by cases h), fun _ h => (by cases h)⟩

theorem raiseOk_iff {V : VV} {q : Int} : raiseOk V q = true ↔ nodeB q = true ∧ q ≠ V.self ∧ q ∉ V.a := by
  unfold raiseOk
  simp only [Bool.and_eq_true, decide_eq_true_eq, Bool.not_eq_true']
  constructor
  · rintro ⟨⟨h1, h2⟩, h3⟩; exact ⟨h1, h2, memB_false h3⟩
  · rintro ⟨h1, h2, h3⟩; exact ⟨⟨h1, h2⟩, memB_no h3⟩

theorem learnOk_iff {V : VV} {q : Int} : learnOk V q = true ↔ nodeB q = true ∧ q ≠ V.self ∧ q ∉ V.a ∧ q ∉ V.p := by
  unfold learnOk
  simp only [Bool.and_eq_true, decide_eq_true_eq, Bool.not_eq_true']
  constructor
  · rintro ⟨⟨⟨h1, h2⟩, h3⟩, h4⟩; exact ⟨h1, h2, memB_false h3, memB_false h4⟩
  · rintro ⟨h1, h2, h3, h4⟩; exact ⟨⟨⟨h1, h2⟩, memB_no h3⟩, memB_no h4⟩

theorem full_ne {l : List Int} {m : Int} (hm : 1 ≤ m) (h : m ≤ l.length) : l ≠ [] := fun e => by subst e; simp at h; omega

theorem raiseG_full {V : VV} (hV : VOK V) {D : List Int} (h : V.am ≤ V.a.length) : raiseG V D = pickV D V.a ∧ raiseG V D ∈ V.a ∧ 0 ≤ raiseG V D := by
  have e : raiseG V D = pickV D V.a := by unfold raiseG addG; rw [if_pos h]
  have hm := pickV_mem (D := D) (full_ne hV.am.1 h)
  rw [e]
  exact ⟨rfl, hm, (nodeB_iff.1 (hV.na _ hm).1).1⟩

theorem raiseG_room {V : VV} {D : List Int} (h : ¬ V.am ≤ V.a.length) : raiseG V D = -1 := by unfold raiseG addG; rw [if_neg h]

theorem raiseG_iff {V : VV} (hV : VOK V) {D : List Int} : 0 ≤ raiseG V D ↔ V.am ≤ V.a.length := by
  by_cases h : V.am ≤ V.a.length
  · exact ⟨fun _ => h, fun _ => (raiseG_full hV h).2.2⟩
  · exact ⟨fun g => by rw [raiseG_room h] at g; omega, fun g => absurd g h⟩

theorem VOK.raise {V : VV} (hV : VOK V) (D : List Int) (q : Int) : VOK (raiseV V D q) := by
  unfold raiseV
  by_cases hr : raiseOk V q = true
  · rw [if_pos hr]
    obtain ⟨h1, h2, h3⟩ := raiseOk_iff.1 hr
    have hdl := dropL_le V.p q
    by_cases hf : V.am ≤ V.a.length
    · obtain ⟨e, hm, h0⟩ := raiseG_full hV (D := D) hf
      rw [if_pos h0]
      have hgp : raiseG V D ∉ dropL V.p q := fun h => hV.dis _ hm (mem_dropL.1 h).1
      refine ⟨addL_sorted hV.sa h3, addL_sorted (dropL_sorted hV.sp q) hgp, hV.am, hV.pm, (addL_len hV.sa hV.am.1 hV.la).1, (addL_len (dropL_sorted hV.sp q) hV.pm.1 (by have := hV.lp; show ((dropL V.p q).length : Int) ≤ V.pm; omega)).1, ?_, ?_, ?_⟩
      · intro x hx
        rcases addL_mem.1 hx with rfl | ⟨g, _⟩
        · exact ⟨h1, h2⟩
        · exact hV.na x g
      · intro x hx
        rcases addL_mem.1 hx with g | ⟨g, _⟩
        · rw [g]; exact hV.na _ hm
        · exact hV.np x (mem_dropL.1 g).1
      · intro x hx hp
        rcases addL_mem.1 hx with g | ⟨g, g'⟩
        · rcases addL_mem.1 hp with k | ⟨k, _⟩
          · rw [g] at k; rw [k] at h3; exact h3 hm
          · exact (mem_dropL.1 k).2 g
        · rcases addL_mem.1 hp with k | ⟨k, _⟩
          · exact g' hf (k.trans e)
          · exact hV.dis x g (mem_dropL.1 k).1
    · have e := raiseG_room (D := D) hf
      rw [e, if_neg (by omega)]
      refine ⟨addL_sorted hV.sa h3, dropL_sorted hV.sp q, hV.am, hV.pm, (addL_len hV.sa hV.am.1 hV.la).1, by have := hV.lp; show ((dropL V.p q).length : Int) ≤ V.pm; omega, ?_, fun x hx => hV.np x (mem_dropL.1 hx).1, ?_⟩
      · intro x hx
        rcases addL_mem.1 hx with rfl | ⟨g, _⟩
        · exact ⟨h1, h2⟩
        · exact hV.na x g
      · intro x hx hp
        rcases addL_mem.1 hx with g | ⟨g, _⟩
        · exact (mem_dropL.1 hp).2 g
        · exact hV.dis x g (mem_dropL.1 hp).1
  · rw [if_neg hr]; exact hV

theorem VOK.lower {V : VV} (hV : VOK V) (D : List Int) (q : Int) : VOK (lowerV V D q) := by
  unfold lowerV
  by_cases hr : memB V.a q = true
  · rw [if_pos hr]
    have hq := memB_iff.1 hr
    have hdl := dropL_le V.a q
    refine ⟨dropL_sorted hV.sa q, addL_sorted hV.sp (hV.dis q hq), hV.am, hV.pm, by have := hV.la; show ((dropL V.a q).length : Int) ≤ V.am; omega, (addL_len hV.sp hV.pm.1 hV.lp).1, fun x hx => hV.na x (mem_dropL.1 hx).1, ?_, ?_⟩
    · intro x hx
      rcases addL_mem.1 hx with g | ⟨g, _⟩
      · rw [g]; exact hV.na _ hq
      · exact hV.np x g
    · intro x hx hp
      rcases addL_mem.1 hp with k | ⟨k, _⟩
      · exact (mem_dropL.1 hx).2 k
      · exact hV.dis x (mem_dropL.1 hx).1 k
  · rw [if_neg hr]; exact hV

theorem VOK.learn {V : VV} (hV : VOK V) (D : List Int) (q : Int) : VOK (learnV V D q) := by
  unfold learnV
  by_cases hr : learnOk V q = true
  · rw [if_pos hr]
    obtain ⟨h1, h2, h3, h4⟩ := learnOk_iff.1 hr
    refine ⟨hV.sa, addL_sorted hV.sp h4, hV.am, hV.pm, hV.la, (addL_len hV.sp hV.pm.1 hV.lp).1, hV.na, ?_, ?_⟩
    · intro x hx
      rcases addL_mem.1 hx with g | ⟨g, _⟩
      · rw [g]; exact ⟨h1, h2⟩
      · exact hV.np x g
    · intro x hx hp
      rcases addL_mem.1 hp with k | ⟨k, _⟩
      · rw [k] at hx; exact h3 hx
      · exact hV.dis x hx k
  · rw [if_neg hr]; exact hV

theorem memB_eq {l : List Int} {p : Int} {c : Bool} (h : p ∈ l ↔ c = true) : memB l p = c := by
  cases c with
  | true => exact memB_yes (h.2 rfl)
  | false => exact memB_no fun g => by cases h.1 g

/-- What ViewsMove asks of a node that was raised. -/
theorem raise_told {V : VV} (hV : VOK V) {D : List Int} {q : Int} (hr : raiseOk V q = true) :
    memB (raiseV V D q).a q = true ∧ memB V.a q = false ∧ (0 ≤ raiseG V D → memB (raiseV V D q).a (raiseG V D) = false ∧ memB (raiseV V D q).p (raiseG V D) = true) := by
  obtain ⟨h1, h2, h3⟩ := raiseOk_iff.1 hr
  refine ⟨?_, memB_no h3, fun h0 => ?_⟩
  · unfold raiseV; rw [if_pos hr]; exact memB_yes (addL_mem.2 (.inl rfl))
  · have hf := (raiseG_iff hV).1 h0
    obtain ⟨e, hm, _⟩ := raiseG_full hV (D := D) hf
    unfold raiseV
    rw [if_pos hr]
    refine ⟨memB_no fun h => ?_, ?_⟩
    · rcases addL_mem.1 h with g | ⟨_, g⟩
      · rw [g] at hm; exact h3 hm
      · exact g hf e
    · show memB (if 0 ≤ raiseG V D then _ else _) _ = true
      rw [if_pos h0]
      exact memB_yes (addL_mem.2 (.inl rfl))

theorem lower_told {V : VV} (hV : VOK V) {D : List Int} {q : Int} : memB (lowerV V D q).a q = false ∧ (memB V.a q = true → memB (lowerV V D q).p q = true ∧ (lowerV V D q).a.length + 1 = V.a.length) := by
  unfold lowerV
  by_cases hr : memB V.a q = true
  · rw [if_pos hr]
    exact ⟨memB_no fun h => (mem_dropL.1 h).2 rfl, fun _ => ⟨memB_yes (addL_mem.2 (.inl rfl)), dropL_len hV.sa (memB_iff.1 hr)⟩⟩
  · rw [if_neg hr]; exact ⟨by simpa using hr, fun h => absurd h hr⟩

theorem learn_told {V : VV} {D : List Int} {q : Int} : (learnV V D q).a = V.a ∧ (learnOk V q = true → memB (learnV V D q).p q = true) := by
  unfold learnV
  by_cases hr : learnOk V q = true
  · rw [if_pos hr]; exact ⟨rfl, fun _ => memB_yes (addL_mem.2 (.inl rfl))⟩
  · rw [if_neg hr]; exact ⟨rfl, fun h => absurd h hr⟩

theorem addD_le (D l : List Int) (m : Int) : (addD D l m).length ≤ D.length := by
  have h : ∀ (l : List Int) (n : Int), (drawL l n).length ≤ l.length := fun l n => by
    cases l with
    | nil => simp [drawL]
    | cons x r => simp only [drawL]; split <;> simp
  unfold addD; split
  · exact h _ _
  · exact Nat.le_refl _

end Go.Proofs.YtbpdchaeakihkaaGreat
