/- Dices: several texts, joined. The dice: what New, Feed, Left, Draw and slices.Clone do, as contracts in the logic of ownership. -/
import Derived.Test.YtojfjbbggpfijaaGreatDoorRows
import Derived.Test.YtojfjbbggpfijaaGreatDoorLib
import Derived.WalkKit
import Derived.WalkSpells
import Derived.WalkLawsBesides
import Derived.BigQuiet
import Derived.Deep.QuietTactic
namespace Go.Proofs.YtojfjbbggpfijaaGreatDoor
open Go.RowKit Go.Qd

theorem Tryz.elem24 : ElemT Tryz.prog 24 3 1 8 := ElemT.mk' Tryz.underlying24 (by kernel_rfl : (Tryz.prog.info? 3).map (fun i => (i.zero, i.size, i.bytes)) = some (some (.int .i64 0), 1, 8)) rfl (by decide) (by simp [Value.cells, Value.oneCell'])

theorem nil_of_len {sz c : Nat} {w : World} {zs : List Int} (rd : RdS w sz none 0 c (ivs zs)) : zs = [] :=
  List.eq_nil_of_length_eq_zero (by have := rd.len; simpa [ivs] using this)

/-- slices.Clone of a slice of int. -/
theorem clone_c {W w : World} {R : List HP} {post : Ending → World → Prop} {ao : Option Addr} {n c : Nat} {zs : List Int} (st : St W w R) (rd : RdS w 1 ao n c (ivs zs)) (hb : n * 8 ≤ 140737488355328)
    (K : ∀ ao' c' w', St W w' (OwnS 1 ao' n c' (ivs zs) :: R) → post (.returned (.slice ao' n c')) w') : Calls Tryz.prog 37 #[.slice ao n c] w post := by
  have hcmp : ∀ w ao n c, (binOp .eql 24 (.slice ao n c) (.slice none 0 0)).run Tryz.prog w = .ok (.bool ao.isNone) w := fun w ao n c => Lib.run_eql_slice_nil w 24 3 ao n c 0 0 Tryz.underlying24
  have HK := hid K; clear K
  cases ao with
  | none =>
    have hc := rd.nil rfl
    have hn : n = 0 := by have := rd.le; omega
    subst hc; subst hn
    have hz : zs = [] := nil_of_len rd
    subst hz
    go_enter Tryz.func37, Tryz.ntmps37
    go_wp2
    exact HK.out none 0 w (OwnS.none0 st)
  | some a =>
    go_enter Tryz.func37, Tryz.ntmps37
    have s1 : St W (w.alloc (.cells #[] 3)) (OwnS 1 (some ⟨w.heap.size, 0, none⟩) 0 0 [] :: R) := OwnS.empty (st.alloc #[] 3).drop _
    have r1 := rd.alloc (.cells #[] 3)
    have hm : n ≤ maxLen := by unfold maxLen; omega
    go_wp2_with (at_builtin; refine wpl_append rfl _ _ rfl Tryz.elem24 rfl rfl s1 r1 (by omega) (by omega) ?_; rintro ao' c' w' s2; rw [Nat.zero_add] at s2 ⊢)
    exact HK.out _ _ _ s2

/-- Dice at a block, with these numbers. -/
def DiceA (b : Nat) (l : List Int) : HP := fun h => ∃ x : Option Addr × Nat × Nat, sepL [pt b 0 (.slice x.1 x.2.1 x.2.2), OwnS 1 x.1 x.2.1 x.2.2 (ivs l)] h

theorem DiceA.open {W w : World} {R : List HP} {b : Nat} {l : List Int} (st : St W w (DiceA b l :: R)) : ∃ ao n c, St W w (pt b 0 (.slice ao n c) :: OwnS 1 ao n c (ivs l) :: R) := by
  obtain ⟨x, s⟩ := St.ex (F := fun (x : Option Addr × Nat × Nat) h => sepL [pt b 0 (.slice x.1 x.2.1 x.2.2), OwnS 1 x.1 x.2.1 x.2.2 (ivs l)] h) st
  exact ⟨_, _, _, (St.flat _).1 s⟩

theorem DiceA.close {W w : World} {R : List HP} {b : Nat} {l : List Int} {ao : Option Addr} {n c : Nat} (st : St W w (pt b 0 (.slice ao n c) :: OwnS 1 ao n c (ivs l) :: R)) : St W w (DiceA b l :: R) :=
  ((St.flat [pt b 0 (.slice ao n c), OwnS 1 ao n c (ivs l)]).2 st).imp fun _ x => ⟨(ao, n, c), x⟩

theorem new_c {W w : World} {R : List HP} {post : Ending → World → Prop} {ao : Option Addr} {n c : Nat} {zs : List Int} (st : St W w R) (rd : RdS w 1 ao n c (ivs zs)) (hb : n * 8 ≤ 140737488355328)
    (K : ∀ b w', St W w' (DiceA b zs :: R) → post (.returned (.pointer (some ⟨b, 0, none⟩))) w') : Calls Tryz.prog 12 #[.slice ao n c] w post := by
  have HK := hid K; clear K
  go_enter Tryz.func12, Tryz.ntmps12
  go_wp2_with (go_at_call 37; refine clone_c st rd hb ?_; rintro ao' c' w' s2)
  have s3 := (s2.alloc #[.slice ao' n c'] 122).row1
  exact HK.out _ _ (DiceA.close s3)

/-- What is drawn, and what is left. -/
def drawV (l : List Int) (n : Int) : Int := match l with
  | [] => 0
  | x :: _ => if n < 1 then 0 else x % n
def drawL (l : List Int) (n : Int) : List Int := match l with
  | [] => []
  | x :: r => if n < 1 then x :: r else r

theorem tmod_mod (x n : Int) : x.tmod n % n = x % n := by
  conv => rhs; rw [← Int.tmod_add_mul_tdiv x n]
  rw [Int.add_mul_emod_self_left]
theorem tmod_lo {x n : Int} (hn : 1 ≤ n) : -n < x.tmod n ∧ x.tmod n < n :=
  ⟨by have := Int.lt_tmod_of_pos x (b := n) (by omega); omega, Int.tmod_lt_of_pos x (by omega)⟩
theorem tmod_neg {x n : Int} (hn : 1 ≤ n) (h : x.tmod n < 0) : x.tmod n + n = x % n := by
  rw [← tmod_mod]
  have := tmod_lo (x := x) hn
  rw [← Int.add_emod_right (x.tmod n) n, Int.emod_eq_of_lt (by omega) (by omega)]
theorem tmod_pos {x n : Int} (hn : 1 ≤ n) (h : ¬ x.tmod n < 0) : x.tmod n = x % n := by
  rw [← tmod_mod]
  have := tmod_lo (x := x) hn
  rw [Int.emod_eq_of_lt (by omega) (by omega)]
theorem draw_c {W w : World} {R : List HP} {post : Ending → World → Prop} {b : Nat} {l : List Int} {n : Int} (st : St W w (DiceA b l :: R)) (hn : n ≤ 9223372036854775807)
    (K : ∀ w', St W w' (DiceA b (drawL l n) :: R) → post (.returned (.int .i64 (drawV l n))) w') : Calls Tryz.prog 105 #[.pointer (some ⟨b, 0, none⟩), .int .i64 n] w post := by
  have HK := hid K; clear K
  obtain ⟨ad, nd, cd, s⟩ := DiceA.open st
  have hcell := s.cell
  have hfree := s.free
  have hrd := OwnS.rd (St.pick 1 s)
  have hl : nd = l.length := by have := hrd.len; simpa [ivs] using this.symm
  subst hl
  by_cases h1 : n < 1
  · have k : St W w (DiceA b (drawL l n) :: R) ∧ drawV l n = 0 := by cases l <;> simp [drawL, drawV, h1] <;> exact st
    have k2 := HK.out w k.1
    rw [k.2] at k2
    have HK2 := hid k2; clear k2 HK k
    go_enter Tryz.func105, Tryz.ntmps105
    go_wp2
    exact HK2.out
  · cases l with
    | nil =>
      have k2 := hid (HK.out w st)
      clear HK
      go_enter Tryz.func105, Tryz.ntmps105
      go_wp2
      exact k2.out
    | cons x r =>
      obtain ⟨g, o, rfl⟩ := hrd.addr (by simp)
      have hx : w.cell? ⟨g, o, none⟩ = some (.int .i64 x) := hrd.at (i := 0) rfl
      have h2 : drawL (x :: r) n = r := by simp [drawL, h1]
      have h3 : drawV (x :: r) n = x % n := by simp [drawV, h1]
      rw [h2, h3] at HK
      clear h2 h3
      have s1 : St W w (OwnS 1 (some ⟨g, o, none⟩) (r.length + 1) cd (ivs (x :: r)) :: pt b 0 (.slice (some ⟨g, o, none⟩) (r.length + 1) cd) :: R) := s.pick 1
      have hb := tmod_lo (x := x) (n := n) (by omega)
      by_cases h4 : x.tmod n < 0
      · have h5 := hid (tmod_neg (by omega) h4)
        go_enter Tryz.func105, Tryz.ntmps105
        go_wp2_with (refine wpl_cut rfl _ _ rfl Tryz.elem24 1 (n' := r.length) rfl rfl s1 rfl ?_; rintro ao' c' s2)
        rw [h5.out]
        exact HK.out _ (DiceA.close (St.set (St.pick 1 s2) _))
      · have h5 := hid (tmod_pos (by omega) h4)
        go_enter Tryz.func105, Tryz.ntmps105
        go_wp2_with (refine wpl_cut rfl _ _ rfl Tryz.elem24 1 (n' := r.length) rfl rfl s1 rfl ?_; rintro ao' c' s2)
        rw [h5.out]
        exact HK.out _ (DiceA.close (St.set (St.pick 1 s2) _))

end Go.Proofs.YtojfjbbggpfijaaGreatDoor

/- The dice: Pick; the reference's Same. -/
namespace Go.Proofs.YtojfjbbggpfijaaGreatDoor
open Go.RowKit Go.Qd

theorem drawV_range {l : List Int} {n : Int} (h : 1 ≤ n) : 0 ≤ drawV l n ∧ drawV l n < n := by
  cases l with
  | nil => exact ⟨Int.le_refl _, by simp [drawV]; omega⟩
  | cons x r =>
    have h1 : ¬ n < 1 := by omega
    simp only [drawV, h1, if_false]
    exact ⟨Int.emod_nonneg x (by omega), Int.emod_lt_of_pos x (by omega)⟩

def pickV (l zs : List Int) : Int := zs.getD (drawV l zs.length).toNat 0

/-- Pick. -/
theorem pick_c {W w : World} {R : List HP} {post : Ending → World → Prop} {b : Nat} {l : List Int} {ao : Option Addr} {n c : Nat} {zs : List Int} (st : St W w (DiceA b l :: R))
    (rd : ∀ w', St W w' R → RdS w' 1 ao n c (ivs zs))
    (K : ∀ w', St W w' (DiceA b (if zs = [] then l else drawL l zs.length) :: R) → post (.returned (.tuple #[.int .i64 (if zs = [] then 0 else pickV l zs), .bool (!zs.isEmpty)])) w') :
    Calls Tryz.prog 56 #[.pointer (some ⟨b, 0, none⟩), .slice ao n c] w post := by
  have HK := hid K; clear K
  have r0 := rd w st.drop
  have hn : zs.length = n := by have := r0.len; simpa [ivs] using this
  have HN := hid hn
  have hm := r0.max
  have hle := r0.le
  unfold maxLen at hm
  rcases Nat.eq_zero_or_pos n with h0 | h0
  · subst h0
    have hz : zs = [] := List.eq_nil_of_length_eq_zero hn
    subst hz
    have k := hid (HK.out w st)
    clear HK HN hn rd
    go_enter Tryz.func56, Tryz.ntmps56
    go_wp2
    exact k.out
  · have hz : zs ≠ [] := fun h => by subst h; simp at hn; omega
    have hz' : zs.isEmpty = false := by cases zs <;> simp at hz ⊢
    rw [if_neg hz, if_neg hz, hz', hn] at HK
    obtain ⟨g, o, rfl⟩ := r0.addr h0
    have hr := drawV_range (l := l) (n := (n : Int)) (by omega)
    have hd := hid rd; clear rd
    obtain ⟨k, hk⟩ := Int.eq_ofNat_of_zero_le hr.1
    have hkn : k < n := by rw [hk] at hr; omega
    have hkl : k < zs.length := by omega
    have hv : pickV l zs = zs[k] := by
      unfold pickV; rw [hn, hk]; simp [List.getD, hkl]
    rw [hv] at HK
    have HH := hid hk
    clear hr hk hv r0 hn hz hz'
    go_enter Tryz.func56, Tryz.ntmps56
    go_wp2_with (go_at_call 105; refine draw_c st (by omega) ?_; rintro w' s2; have hc := (hd.out w' s2.drop).at (ivs_get hkl); rw [HH.out])
    exact HK.out _ s2

theorem take_snoc_eq {xs ys : List Int} {k : Nat} (hx : k < xs.length) (hy : k < ys.length) (h : xs.take k = ys.take k) (e : xs[k] = ys[k]) : xs.take (k + 1) = ys.take (k + 1) := by
  rw [List.take_succ_eq_append_getElem hx, List.take_succ_eq_append_getElem hy, h, e]

end Go.Proofs.YtojfjbbggpfijaaGreatDoor
