/- The reference's views: of each node whether it is there. -/
import Derived.Test.YtbpdchaeakihkaaGreatTv
import Derived.Test.YtbpdchaeakihkaaGreatRefDice
import Derived.Test.YtbpdchaeakihkaaGreatLib
import Derived.Deep.MidRow
import Derived.Deep.RegionHeld3
namespace Go.Proofs.YtbpdchaeakihkaaGreat
open Go.RowKit Go.Qd

def bits (l : List Int) : List Value := (List.range 12).map (fun p : Nat => Value.bool (memB l (p : Int)))
theorem bits_len (l : List Int) : (bits l).length = 12 := by simp [bits]
theorem bits_get {l : List Int} {k : Nat} (h : k < 12) : (bits l)[k]? = some (.bool (memB l (k : Int))) := by simp [bits, h]
theorem bits_one (l : List Int) : ∀ u ∈ bits l, u.oneCell' = true := by
  intro u hu; unfold bits at hu; obtain ⟨p, _, rfl⟩ := List.mem_map.1 hu; rfl
theorem bits_set {l m : List Int} {k : Nat} {c : Bool} (hk : memB m (k : Int) = c) (ho : ∀ p : Nat, p ≠ k → memB m (p : Int) = memB l (p : Int)) : (bits l).set k (.bool c) = bits m := by
  refine List.ext_getElem? fun i => ?_
  rw [List.getElem?_set]
  by_cases h : k = i
  · subst h
    rw [if_pos rfl, bits_len]
    by_cases g : k < 12
    · rw [if_pos g, bits_get g, hk]
    · rw [if_neg g, List.getElem?_eq_none (by rw [bits_len]; omega)]
  · rw [if_neg h]
    by_cases g : i < 12
    · rw [bits_get g, bits_get g, ho i (Ne.symm h)]
    · rw [List.getElem?_eq_none (by rw [bits_len]; omega), List.getElem?_eq_none (by rw [bits_len]; omega)]
theorem memB_congr {l m : List Int} {p : Int} (h : p ∈ m ↔ p ∈ l) : memB m p = memB l p := by
  rw [Bool.eq_iff_iff, memB_iff, memB_iff]; exact h
theorem bits_drop (l : List Int) (k : Nat) : (bits l).set k (.bool false) = bits (dropL l k) :=
  bits_set (memB_no fun h => (mem_dropL.1 h).2 rfl) fun p hp => memB_congr (by rw [mem_dropL]; exact ⟨fun h => h.1, fun h => ⟨h, fun e => hp (by omega)⟩⟩)
theorem bits_ins (l : List Int) (k : Nat) : (bits l).set k (.bool true) = bits (insL l k) :=
  bits_set (memB_yes (mem_insL.2 (.inr rfl))) fun p hp => memB_congr (by rw [mem_insL]; exact ⟨fun h => h.elim id fun e => absurd (by omega) hp, fun h => .inl h⟩)

def refCells (V : VV) : List Value := iv V.self :: (bits V.a ++ (bits V.p ++ [iv V.am, iv V.pm]))
theorem refCells_len (V : VV) : (refCells V).length = 27 := by simp [refCells, bits_len]
theorem refCells_self (V : VV) : (refCells V)[0]? = some (iv V.self) := rfl
theorem refCells_a {V : VV} {k : Nat} (h : k < 12) : (refCells V)[1 + k]? = some (.bool (memB V.a (k : Int))) := by
  unfold refCells
  rw [Nat.add_comm, List.getElem?_cons_succ, List.getElem?_append_left (by rw [bits_len]; exact h), bits_get h]
theorem refCells_p {V : VV} {k : Nat} (h : k < 12) : (refCells V)[13 + k]? = some (.bool (memB V.p (k : Int))) := by
  unfold refCells
  rw [show 13 + k = (12 + k) + 1 by omega, List.getElem?_cons_succ, List.getElem?_append_right (by rw [bits_len]; omega), bits_len, Nat.add_sub_cancel_left, List.getElem?_append_left (by rw [bits_len]; exact h), bits_get h]
theorem refCells_am (V : VV) : (refCells V)[25]? = some (iv V.am) := by simp [refCells, bits, List.range_succ]
theorem refCells_pm (V : VV) : (refCells V)[26]? = some (iv V.pm) := by simp [refCells, bits, List.range_succ]
theorem refCells_one (V : VV) : ∀ u ∈ refCells V, u.oneCell' = true := by
  intro u hu
  unfold refCells at hu
  simp only [List.mem_cons, List.mem_append, List.not_mem_nil, or_false] at hu
  rcases hu with rfl | h | h | rfl | rfl
  · rfl
  · exact bits_one _ _ h
  · exact bits_one _ _ h
  · rfl
  · rfl
theorem refCells_setA {V : VV} {k : Nat} (h : k < 12) (v : Value) {m : List Int} (e : (bits V.a).set k v = bits m) : (refCells V).set (1 + k) v = refCells { V with a := m } := by
  unfold refCells
  rw [Nat.add_comm, List.set_cons_succ, List.set_append_left _ _ (by rw [bits_len]; exact h), e]
theorem refCells_setP {V : VV} {k : Nat} (h : k < 12) (v : Value) {m : List Int} (e : (bits V.p).set k v = bits m) : (refCells V).set (13 + k) v = refCells { V with p := m } := by
  unfold refCells
  rw [show 13 + k = (12 + k) + 1 by omega, List.set_cons_succ, List.set_append_right _ _ (by rw [bits_len]; omega), bits_len, Nat.add_sub_cancel_left, List.set_append_left _ _ (by rw [bits_len]; exact h), e]

theorem aggRV : AggT Tryz.prog 93 27 := ⟨⟨_, Tryz.underlying93, rfl⟩, by kernel_rfl⟩
theorem aggB12 : AggT Tryz.prog 83 12 := ⟨⟨_, Tryz.underlying83, rfl⟩, by kernel_rfl⟩
def noneRV : List Value := iv 0 :: (List.replicate 24 (.bool false) ++ [iv 0, iv 0])
theorem zeroRV (w : World) : (zeroValue 93).run Tryz.prog w = .ok (.agg noneRV.toArray) w := by kernel_rfl

section
variable {W w : World} {R : List HP} {post : Ending → World → Prop} {B : Nat} {V : VV}

theorem ref_self (s : St W w (row B 0 (refCells V) :: R)) : w.cell? ⟨B, 0, none⟩ = some (iv V.self) := by have := s.rowCell (refCells_self V); exact this
theorem ref_a (s : St W w (row B 0 (refCells V) :: R)) {k : Nat} (h : k < 12) : w.cell? ⟨B, 1 + k, none⟩ = some (.bool (memB V.a (k : Int))) := by have := s.rowCell (refCells_a h); rwa [Nat.zero_add] at this
theorem ref_p (s : St W w (row B 0 (refCells V) :: R)) {k : Nat} (h : k < 12) : w.cell? ⟨B, 13 + k, none⟩ = some (.bool (memB V.p (k : Int))) := by have := s.rowCell (refCells_p h); rwa [Nat.zero_add] at this
theorem ref_am (s : St W w (row B 0 (refCells V) :: R)) : w.cell? ⟨B, 25, none⟩ = some (iv V.am) := by have := s.rowCell (refCells_am V); rwa [Nat.zero_add] at this
theorem ref_pm (s : St W w (row B 0 (refCells V) :: R)) : w.cell? ⟨B, 26, none⟩ = some (iv V.pm) := by have := s.rowCell (refCells_pm V); rwa [Nat.zero_add] at this
theorem ref_all (s : St W w (row B 0 (refCells V) :: R)) : w.rangeAt B 0 (refCells V) := fun _ _ h => s.rowCell h
theorem ref_ra (s : St W w (row B 0 (refCells V) :: R)) : w.rangeAt B 1 (bits V.a) := fun j v h => by
  have hj : j < 12 := by
    rcases Nat.lt_or_ge j 12 with g | g
    · exact g
    · rw [List.getElem?_eq_none (by rw [bits_len]; exact g)] at h; cases h
  rw [bits_get hj] at h
  rw [← h]; exact ref_a s hj
theorem ref_rp (s : St W w (row B 0 (refCells V) :: R)) : w.rangeAt B 13 (bits V.p) := fun j v h => by
  have hj : j < 12 := by
    rcases Nat.lt_or_ge j 12 with g | g
    · exact g
    · rw [List.getElem?_eq_none (by rw [bits_len]; exact g)] at h; cases h
  rw [bits_get hj] at h
  rw [← h]; exact ref_p s hj
theorem ref_free (s : St W w (row B 0 (refCells V) :: R)) {i : Nat} (h : i < 27) : w.frozen? ⟨B, i, none⟩ = false := by
  have := s.rowFree (i := i) (by rw [refCells_len]; exact h); rwa [Nat.zero_add] at this
theorem ref_setA (s : St W w (row B 0 (refCells V) :: R)) {k : Nat} (h : k < 12) (v : Value) {m : List Int} (e : (bits V.a).set k v = bits m) : St W (w.setCell ⟨B, 1 + k, none⟩ v) (row B 0 (refCells { V with a := m }) :: R) := by
  have := s.rowSet (i := 1 + k) (by rw [refCells_len]; omega) v
  rwa [refCells_setA h v e, Nat.zero_add] at this
theorem ref_setP (s : St W w (row B 0 (refCells V) :: R)) {k : Nat} (h : k < 12) (v : Value) {m : List Int} (e : (bits V.p).set k v = bits m) : St W (w.setCell ⟨B, 13 + k, none⟩ v) (row B 0 (refCells { V with p := m }) :: R) := by
  have := s.rowSet (i := 13 + k) (by rw [refCells_len]; omega) v
  rwa [refCells_setP h v e, Nat.zero_add] at this

/-- Those of a list below a number. -/
def below (l : List Int) (k : Nat) : List Int := l.filter (fun x => decide (x < (k : Int)))
theorem below_zero {l : List Int} (h : ∀ x ∈ l, nodeB x = true) : below l 0 = [] := List.filter_eq_nil_iff.2 fun x hx => by
  have := (nodeB_iff.1 (h x hx)).1; simp; omega
theorem below_all {l : List Int} (h : ∀ x ∈ l, nodeB x = true) : below l 12 = l := List.filter_eq_self.2 fun x hx => by
  have := (nodeB_iff.1 (h x hx)).2; simp; omega
theorem below_no {l : List Int} {k : Nat} (h : (k : Int) ∉ l) : below l (k + 1) = below l k := by
  unfold below
  refine List.filter_congr fun x hx => ?_
  have : x ≠ (k : Int) := fun e => h (e ▸ hx)
  rw [Bool.eq_iff_iff]; simp; omega
theorem below_yes {l : List Int} {k : Nat} (hs : l.Pairwise (· < ·)) (h : (k : Int) ∈ l) : below l (k + 1) = below l k ++ [(k : Int)] := by
  refine sorted_ext (hs.filter _) ?_ fun x => ?_
  · refine List.pairwise_append.2 ⟨hs.filter _, List.pairwise_singleton _ _, fun a ha b hb => ?_⟩
    have h1 := (List.mem_filter.1 ha).2
    simp at h1 hb; omega
  · unfold below
    simp only [List.mem_append, List.mem_filter, List.mem_singleton, decide_eq_true_eq]
    constructor
    · rintro ⟨h1, h2⟩
      by_cases e : x = (k : Int)
      · exact .inr e
      · exact .inl ⟨h1, by omega⟩
    · rintro (⟨h1, h2⟩ | rfl)
      · exact ⟨h1, by omega⟩
      · exact ⟨h, by omega⟩
theorem below_le {l : List Int} {k : Nat} (hs : l.Pairwise (· < ·)) (h : ∀ x ∈ l, nodeB x = true) : (below l k).length ≤ k := by
  induction k with
  | zero => rw [below_zero h]; exact Nat.le_refl _
  | succ k ih =>
    by_cases g : (k : Int) ∈ l
    · rw [below_yes hs g]; simp; exact ih
    · rw [below_no g]; omega

theorem list_c {l : List Int} (st : St W w R) (hs : l.Pairwise (· < ·)) (hn : ∀ x ∈ l, nodeB x = true)
    (K : ∀ ao c w', St W w' (OwnS 1 ao l.length c (ivs l) :: R) → post (.returned (.slice ao l.length c)) w') : Calls Tryz.prog 29 #[.agg (bits l).toArray] w post := by
  have HK := hid K; clear K
  have HS := hid hs; have HN := hid hn
  go_enter Tryz.func29, Tryz.ntmps29
  go_wp2_with (first
    | (refine wpl_boxA (vs := bits l) rfl (.tmp 0) rfl rfl st ?_; rintro B w1 s1; have s2 := OwnS.empty (sz := 1) (s1.alloc #[] 3).drop (some ⟨w1.heap.size, 0, none⟩)))
  go_loopw [3, 4] (fun ov iv' wr => ∃ (k n c : Nat) (a : Option Addr), k ≤ 12 ∧ iv' = .int .i64 k ∧ ov = .slice a n c ∧ n ≤ k ∧ St W wr (OwnS 1 a n c (ivs (below l k)) :: row B 0 (bits l) :: R)) (fun _ iv' _ => 12 - (intOf iv').toNat)
  case atStart => exact ⟨0, 0, 0, _, by omega, rfl, rfl, Nat.le_refl _, by rw [below_zero HN.out]; exact s2⟩
  case round =>
    obtain ⟨k, n, c, a, hk, rfl, rfl, hnk, sr⟩ := hrel
    by_cases hlt : k < 12
    · have hc := (St.pick 1 sr).rowCell (bits_get (l := l) hlt)
      rw [Nat.zero_add] at hc
      have hk0 : (0 : Int) ≤ (k : Int) := by omega
      have hk1 : (k : Int) < 12 := by omega
      obtain ⟨mb, hmb⟩ : ∃ mb, memB l (k : Int) = mb := ⟨_, rfl⟩
      rw [hmb] at hc
      cases mb with
      | true =>
        have HE := hid (below_yes HS.out (memB_iff.1 hmb))
        clear hmb
        have s3 := sr.alloc #[.int .i64 (k : Int)] 3
        have hb1 : (n + 1) * 8 ≤ 140737488355328 := by omega
        have hm1 : n + 1 ≤ maxLen := by unfold maxLen; omega
        go_wp2_with (at_builtin; refine wpl_append rfl (.tmp 13) (.tmp 15) rfl Tryz.elem24 rfl rfl (St.pick 1 s3) (St.rowRd (n := 1) s3 rfl (by decide) (ivs_one [(k : Int)])) hb1 hm1 ?_; rintro a4 c4 w4 s4)
        go_roundw
        case rel => exact ⟨k + 1, n + 1, c4, a4, by omega, by go_num, rfl, by omega, by rw [HE.out, ivs_append]; exact (St.pick 1 s4).drop |> fun s => s⟩
        case measure => simp [intOf]; omega
      | false =>
        have HE := hid (below_no (memB_false hmb))
        clear hmb
        go_wp2
        go_roundw
        case rel => exact ⟨k + 1, n, c, a, by omega, by go_num, rfl, by omega, by rw [HE.out]; exact sr⟩
        case measure => simp [intOf]; omega
    · have hk12 : k = 12 := by omega
      subst hk12
      have hl := ivs_len (OwnS.rd sr)
      rw [below_all HN.out] at hl sr
      subst hl
      go_wp2
      exact HK.out _ _ _ (St.pick 1 sr).drop

end

end Go.Proofs.YtbpdchaeakihkaaGreat
