/- The reference's net: its cells; Link, Has. -/
import Derived.Test.YtnibgchgcggfbabNetX
import Derived.Test.YtnibgchgcggfbabGuard
import Derived.Deep.MidRow
import Derived.Deep.RegionHeld3
import Derived.Deep.RegionLaw
namespace Go.Proofs.Ytnibgchgcggfbab
open Go.RowKit Go.Qd

/-- The reference's net, without its parcels. -/
structure RN where
  nodes : Int
  room : Int
  a : Option Addr
  n : Nat
  c : Nat
  cut : Nat → Nat → Bool
  dropped : Int

def cutC (f : Nat → Nat → Bool) : List Value := (List.range 144).map fun k => .bool (f (k / 12) (k % 12))
theorem cutC_len (f) : (cutC f).length = 144 := by simp [cutC]
theorem cutC_get {f : Nat → Nat → Bool} {i j : Nat} (hi : i < 12) (hj : j < 12) : (cutC f)[i * 12 + j]? = some (.bool (f i j)) := by
  have h : i * 12 + j < 144 := by omega
  have h1 : (i * 12 + j) / 12 = i := by omega
  have h2 : (i * 12 + j) % 12 = j := by omega
  simp [cutC, h, h1, h2]
theorem cutC_one (f) : ∀ u ∈ cutC f, u.oneCell' = true := by
  intro u hu; unfold cutC at hu; obtain ⟨p, _, rfl⟩ := List.mem_map.1 hu; rfl
def updC (f : Nat → Nat → Bool) (i j : Nat) (v : Bool) : Nat → Nat → Bool := fun x y => if x = i ∧ y = j then v else f x y
theorem cutC_set {f : Nat → Nat → Bool} {i j : Nat} (hi : i < 12) (hj : j < 12) (v : Bool) : (cutC f).set (i * 12 + j) (.bool v) = cutC (updC f i j v) := by
  refine List.ext_getElem? fun k => ?_
  rw [List.getElem?_set]
  by_cases h : i * 12 + j = k
  · subst h
    rw [if_pos rfl, cutC_len, if_pos (by omega), cutC_get hi hj]
    simp [updC]
  · rw [if_neg h]
    by_cases g : k < 144
    · simp only [cutC, List.getElem?_map, List.getElem?_range g, Option.map_some]
      have : ¬ (k / 12 = i ∧ k % 12 = j) := fun ⟨e1, e2⟩ => h (by omega)
      simp [updC, this]
    · rw [List.getElem?_eq_none (by rw [cutC_len]; omega), List.getElem?_eq_none (by rw [cutC_len]; omega)]

def rnC (N : RN) : List Value := iv N.nodes :: iv N.room :: .slice N.a N.n N.c :: (cutC N.cut ++ [iv N.dropped])
theorem rnC_len (N : RN) : (rnC N).length = 148 := by simp [rnC, cutC_len]
theorem rnC_cut {N : RN} {i j : Nat} (hi : i < 12) (hj : j < 12) : (rnC N)[3 + (i * 12 + j)]? = some (.bool (N.cut i j)) := by
  unfold rnC
  rw [show 3 + (i * 12 + j) = (i * 12 + j) + 1 + 1 + 1 by omega, List.getElem?_cons_succ, List.getElem?_cons_succ, List.getElem?_cons_succ, List.getElem?_append_left (by rw [cutC_len]; omega), cutC_get hi hj]
theorem rnC_drop (N : RN) : (rnC N)[147]? = some (iv N.dropped) := by
  unfold rnC
  rw [List.getElem?_cons_succ, List.getElem?_cons_succ, List.getElem?_cons_succ, List.getElem?_append_right (by rw [cutC_len]; omega), cutC_len]; rfl
theorem rnC_one (N : RN) : ∀ u ∈ rnC N, u.oneCell' = true := by
  intro u hu
  unfold rnC at hu
  simp only [List.mem_cons, List.mem_append, List.not_mem_nil, or_false] at hu
  rcases hu with rfl | rfl | rfl | h | rfl
  · rfl
  · rfl
  · rfl
  · exact cutC_one _ _ h
  · rfl
theorem rnC_setL (N : RN) (a : Option Addr) (n c : Nat) : (rnC N).set 2 (.slice a n c) = rnC { N with a := a, n := n, c := c } := rfl
theorem rnC_setD (N : RN) (d : Int) : (rnC N).set 147 (iv d) = rnC { N with dropped := d } := by
  unfold rnC
  rw [List.set_cons_succ, List.set_cons_succ, List.set_cons_succ, List.set_append_right _ _ (by rw [cutC_len]; omega), cutC_len]; rfl
theorem rnC_setC (N : RN) {i j : Nat} (hi : i < 12) (hj : j < 12) (v : Bool) : (rnC N).set (3 + (i * 12 + j)) (.bool v) = rnC { N with cut := updC N.cut i j v } := by
  unfold rnC
  rw [show 3 + (i * 12 + j) = (i * 12 + j) + 1 + 1 + 1 by omega, List.set_cons_succ, List.set_cons_succ, List.set_cons_succ, List.set_append_left _ _ (by rw [cutC_len]; omega), cutC_set hi hj]

theorem agg43 : AggT Try.prog 43 148 := ⟨⟨_, Try.underlying43, rfl⟩, by kernel_rfl⟩
def noRN : RN := ⟨0, 0, none, 0, 0, fun _ _ => false, 0⟩
theorem zero43 (w : World) : (zeroValue 43).run Try.prog w = .ok (.agg (rnC noRN).toArray) w := by kernel_rfl

theorem Try.elem39 : ElemT Try.prog 39 54 4 48 := ElemT.mk' Try.underlying39 (by kernel_rfl : (Try.prog.info? 54).map (fun i => (i.zero, i.size, i.bytes)) = some (some (.agg #[.int .i64 0, .int .i64 0, .slice none 0 0, .bool false]), 4, 48)) rfl (by decide) (by simp [Value.cells, Value.oneCell'])

section
variable {W w : World} {R : List HP} {post : Ending → World → Prop} {B : Nat} {N : RN}

theorem rn_nodes (s : St W w (row B 0 (rnC N) :: R)) : w.cell? ⟨B, 0, none⟩ = some (iv N.nodes) := s.rowCell (i := 0) rfl
theorem rn_room (s : St W w (row B 0 (rnC N) :: R)) : w.cell? ⟨B, 1, none⟩ = some (iv N.room) := by have := s.rowCell (i := 1) (v := iv N.room) rfl; rwa [Nat.zero_add] at this
theorem rn_l (s : St W w (row B 0 (rnC N) :: R)) : w.cell? ⟨B, 2, none⟩ = some (.slice N.a N.n N.c) := by have := s.rowCell (i := 2) (v := .slice N.a N.n N.c) rfl; rwa [Nat.zero_add] at this
theorem rn_cut (s : St W w (row B 0 (rnC N) :: R)) {i j : Nat} (hi : i < 12) (hj : j < 12) : w.cell? ⟨B, 3 + i * 12 + j, none⟩ = some (.bool (N.cut i j)) := by have := s.rowCell (rnC_cut hi hj); rwa [Nat.zero_add, ← Nat.add_assoc] at this
theorem rn_drop (s : St W w (row B 0 (rnC N) :: R)) : w.cell? ⟨B, 147, none⟩ = some (iv N.dropped) := by have := s.rowCell (rnC_drop N); rwa [Nat.zero_add] at this
theorem rn_free (s : St W w (row B 0 (rnC N) :: R)) {i : Nat} (h : i < 148) : w.frozen? ⟨B, i, none⟩ = false := by
  have := s.rowFree (i := i) (by rw [rnC_len]; exact h); rwa [Nat.zero_add] at this
theorem rn_setL (s : St W w (row B 0 (rnC N) :: R)) (a : Option Addr) (n c : Nat) : St W (w.setCell ⟨B, 2, none⟩ (.slice a n c)) (row B 0 (rnC { N with a := a, n := n, c := c }) :: R) := by
  have := s.rowSet (i := 2) (by rw [rnC_len]; omega) (.slice a n c)
  rwa [rnC_setL, Nat.zero_add] at this
theorem rn_setD (s : St W w (row B 0 (rnC N) :: R)) (d : Int) : St W (w.setCell ⟨B, 147, none⟩ (.int .i64 d)) (row B 0 (rnC { N with dropped := d }) :: R) := by
  have := s.rowSet (i := 147) (by rw [rnC_len]; omega) (iv d)
  rwa [rnC_setD, Nat.zero_add] at this
theorem rn_setC (s : St W w (row B 0 (rnC N) :: R)) {i j : Nat} (hi : i < 12) (hj : j < 12) (v : Bool) : St W (w.setCell ⟨B, 3 + i * 12 + j, none⟩ (.bool v)) (row B 0 (rnC { N with cut := updC N.cut i j v }) :: R) := by
  have := s.rowSet (i := 3 + (i * 12 + j)) (by rw [rnC_len]; omega) (.bool v)
  rwa [rnC_setC N hi hj, Nat.zero_add, ← Nat.add_assoc] at this

set_option maxRecDepth 100000 in
set_option maxHeartbeats 1000000 in
theorem link_c {x y : Int} (st : St W w R) (K : ∀ w', St W w' R → post (.returned (.bool (linkB N.nodes x y))) w') :
    Calls Try.prog 36 #[.agg (rnC N).toArray, .int .i64 x, .int .i64 y] w post := by
  have HK := hid K; clear K
  have e := linkB_eq N.nodes x y
  by_cases h1 : 0 ≤ x
  · by_cases h2 : x < N.nodes
    · by_cases h3 : 0 ≤ y
      · by_cases h4 : y < N.nodes
        · by_cases h5 : x = y
          · rw [show linkB N.nodes x y = false by rw [e]; simp; omega] at HK
            subst h5
            clear e
            go_enter Try.func36, Try.ntmps36
            go_wp2_with (refine wpl_boxA (vs := rnC N) rfl (.tmp 0) rfl rfl st ?_; rintro T w0 s0; have g0 := rn_nodes s0)
            exact HK.out _ s0.drop
          · rw [show linkB N.nodes x y = true by rw [e]; simp; omega] at HK
            clear e
            have hb : (x != y) = true := by simpa using h5
            go_enter Try.func36, Try.ntmps36
            go_wp2_with (refine wpl_boxA (vs := rnC N) rfl (.tmp 0) rfl rfl st ?_; rintro T w0 s0; have g0 := rn_nodes s0)
            exact HK.out _ s0.drop
        · rw [show linkB N.nodes x y = false by rw [e]; simp; omega] at HK
          clear e
          go_enter Try.func36, Try.ntmps36
          go_wp2_with (refine wpl_boxA (vs := rnC N) rfl (.tmp 0) rfl rfl st ?_; rintro T w0 s0; have g0 := rn_nodes s0)
          exact HK.out _ s0.drop
      · rw [show linkB N.nodes x y = false by rw [e]; simp; omega] at HK
        clear e
        go_enter Try.func36, Try.ntmps36
        go_wp2_with (refine wpl_boxA (vs := rnC N) rfl (.tmp 0) rfl rfl st ?_; rintro T w0 s0; have g0 := rn_nodes s0)
        exact HK.out _ s0.drop
    · rw [show linkB N.nodes x y = false by rw [e]; simp; omega] at HK
      clear e
      go_enter Try.func36, Try.ntmps36
      go_wp2_with (refine wpl_boxA (vs := rnC N) rfl (.tmp 0) rfl rfl st ?_; rintro T w0 s0; have g0 := rn_nodes s0)
      exact HK.out _ s0.drop
  · rw [show linkB N.nodes x y = false by rw [e]; simp; omega] at HK
    clear e
    go_enter Try.func36, Try.ntmps36
    go_wp2_with (refine wpl_boxA (vs := rnC N) rfl (.tmp 0) rfl rfl st ?_; rintro T w0 s0; have g0 := rn_nodes s0)
    exact HK.out _ s0.drop

def hasR (n : Nat) (i : Int) : Bool := decide (0 ≤ i) && decide (i < n)

set_option maxRecDepth 100000 in
set_option maxHeartbeats 1000000 in
theorem rhas_c {i : Int} (st : St W w R) (K : ∀ w', St W w' R → post (.returned (.bool (hasR N.n i))) w') :
    Calls Try.prog 19 #[.agg (rnC N).toArray, .int .i64 i] w post := by
  have HK := hid K; clear K
  unfold hasR at HK
  by_cases h1 : 0 ≤ i
  · by_cases h2 : i < N.n
    · rw [show (decide (0 ≤ i) && decide (i < (N.n : Int))) = true by simp [h1, h2]] at HK
      go_enter Try.func19, Try.ntmps19
      go_wp2_with (refine wpl_boxA (vs := rnC N) rfl (.tmp 0) rfl rfl st ?_; rintro T w0 s0; have g0 := rn_l s0)
      exact HK.out _ s0.drop
    · rw [show (decide (0 ≤ i) && decide (i < (N.n : Int))) = false by simp [h1, h2]] at HK
      go_enter Try.func19, Try.ntmps19
      go_wp2_with (refine wpl_boxA (vs := rnC N) rfl (.tmp 0) rfl rfl st ?_; rintro T w0 s0; have g0 := rn_l s0)
      exact HK.out _ s0.drop
  · rw [show (decide (0 ≤ i) && decide (i < (N.n : Int))) = false by simp [h1]] at HK
    go_enter Try.func19, Try.ntmps19
    go_wp2_with (refine wpl_boxA (vs := rnC N) rfl (.tmp 0) rfl rfl st ?_; rintro T w0 s0; have g0 := rn_l s0)
    exact HK.out _ s0.drop

end

end Go.Proofs.Ytnibgchgcggfbab
