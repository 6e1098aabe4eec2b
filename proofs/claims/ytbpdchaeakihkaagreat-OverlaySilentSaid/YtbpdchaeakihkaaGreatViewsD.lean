/- views: Raise, Lower, Learn. -/
import Derived.Test.YtbpdchaeakihkaaGreatViewsC
namespace Go.Proofs.YtbpdchaeakihkaaGreat
open Go.RowKit Go.Qd

theorem memB_false {l : List Int} {p : Int} (h : memB l p = false) : p ∉ l := fun g => by rw [memB_yes g] at h; cases h

theorem addL_mem {D l : List Int} {m p x : Int} : x ∈ addL D l m p ↔ x = p ∨ (x ∈ l ∧ (m ≤ l.length → x ≠ pickV D l)) := by
  unfold addL
  split
  · rename_i h; simp only [mem_insL, mem_dropL, h, true_implies]; exact Or.comm
  · rename_i h; simp only [mem_insL, h, false_implies, and_true]; exact Or.comm
theorem addL_sorted {D l : List Int} {m p : Int} (h : l.Pairwise (· < ·)) (hp : p ∉ l) : (addL D l m p).Pairwise (· < ·) := by
  unfold addL
  split
  · exact insL_sorted (dropL_sorted h _) (fun g => hp (mem_dropL.1 g).1)
  · exact insL_sorted h hp
theorem addL_len {D l : List Int} {m p : Int} (h : l.Pairwise (· < ·)) (hm : 1 ≤ m) (hl : (l.length : Int) ≤ m) : ((addL D l m p).length : Int) ≤ m ∧ (m ≤ l.length → (addL D l m p).length = l.length) ∧ (¬ m ≤ l.length → (addL D l m p).length = l.length + 1) := by
  unfold addL
  by_cases hf : m ≤ l.length
  · have hne : l ≠ [] := fun e => by subst e; simp at hf; omega
    have := dropL_len h (pickV_mem (D := D) hne)
    simp only [hf, if_true, insL_len]
    exact ⟨by omega, fun _ => by omega, fun h => absurd trivial h⟩
  · simp only [hf, if_false, insL_len]
    exact ⟨by omega, fun h => absurd h id, fun _ => trivial⟩

/-- What Raise leaves. -/
def raiseOk (V : VV) (q : Int) : Bool := nodeB q && decide (q ≠ V.self) && !memB V.a q
def raiseA (V : VV) (D : List Int) (q : Int) : List Int := addL D V.a V.am q
def raiseG (V : VV) (D : List Int) : Int := addG D V.a V.am
def raiseD1 (V : VV) (D : List Int) : List Int := addD D V.a V.am
def raiseV (V : VV) (D : List Int) (q : Int) : VV :=
  if raiseOk V q then { V with a := raiseA V D q, p := if 0 ≤ raiseG V D then addL (raiseD1 V D) (dropL V.p q) V.pm (raiseG V D) else dropL V.p q } else V
def raiseD (V : VV) (D : List Int) (q : Int) : List Int :=
  if raiseOk V q then (if 0 ≤ raiseG V D then addD (raiseD1 V D) (dropL V.p q) V.pm else raiseD1 V D) else D

def lowerV (V : VV) (D : List Int) (q : Int) : VV := if memB V.a q then { V with a := dropL V.a q, p := addL D V.p V.pm q } else V
def lowerD (V : VV) (D : List Int) (q : Int) : List Int := if memB V.a q then addD D V.p V.pm else D
def learnOk (V : VV) (q : Int) : Bool := nodeB q && decide (q ≠ V.self) && !memB V.a q && !memB V.p q
def learnV (V : VV) (D : List Int) (q : Int) : VV := if learnOk V q then { V with p := addL D V.p V.pm q } else V
def learnD (V : VV) (D : List Int) (q : Int) : List Int := if learnOk V q then addD D V.p V.pm else D

theorem dropL_le (l : List Int) (p : Int) : (dropL l p).length ≤ l.length := List.length_filter_le _ _

section
variable {W w : World} {R : List HP} {post : Ending → World → Prop} {b d : Nat} {V : VV} {D : List Int} {q : Int}

theorem raise_no (st : St W w (ViewsA b V :: DiceA d D :: R)) (h : raiseOk V q = false) (K : post (.returned (.tuple #[.int .i64 (-1), .bool false])) w) :
    Calls Tryz.prog 85 #[.pointer (some ⟨b, 0, none⟩), .int .i64 q, .pointer (some ⟨d, 0, none⟩)] w post := by
  have HK := hid K; clear K
  have s0 := ViewsA.open st
  have s1 := St.pick 1 s0
  have hc := s0.cell
  obtain ⟨x, hx⟩ : ∃ x, nodeB q = x := ⟨_, rfl⟩
  obtain ⟨z, hz⟩ : ∃ z, memB V.a q = z := ⟨_, rfl⟩
  unfold raiseOk at h
  have HX := hid hx; have HZ := hid hz
  rw [hx, hz] at h
  clear hx hz
  cases x with
  | false =>
    clear h
    go_enter Tryz.func85, Tryz.ntmps85
    go_wp2_with (go_at_call 82; refine node_c ?_; rw [HX.out])
    exact HK.out
  | true =>
    by_cases hq : q = V.self
    · subst hq
      clear h
      go_enter Tryz.func85, Tryz.ntmps85
      go_wp2_with (go_at_call 82; refine node_c ?_; rw [HX.out])
      exact HK.out
    · have hq' : (q == V.self) = false := by simpa using hq
      cases z with
      | false => simp [hq] at h
      | true =>
        clear h hq
        go_enter Tryz.func85, Tryz.ntmps85
        go_wp2_with (first
          | (go_at_call 82; refine node_c ?_; rw [HX.out])
          | (go_at_call 87; refine has_c s1 ?_; rw [HZ.out]))
        exact HK.out

theorem raise_yes (st : St W w (ViewsA b V :: DiceA d D :: R)) (hV : VOK V) (h : raiseOk V q = true)
    (K : ∀ w', St W w' (ViewsA b (raiseV V D q) :: DiceA d (raiseD V D q) :: R) → post (.returned (.tuple #[.int .i64 (raiseG V D), .bool true])) w') :
    Calls Tryz.prog 85 #[.pointer (some ⟨b, 0, none⟩), .int .i64 q, .pointer (some ⟨d, 0, none⟩)] w post := by
  unfold raiseV raiseD at K
  simp only [h, if_true] at K
  have HK := hid K; clear K
  have s0 := ViewsA.open st
  have s1 := St.pick 1 s0
  have hc := s0.cell
  unfold raiseOk at h
  simp only [Bool.and_eq_true, decide_eq_true_eq, Bool.not_eq_true'] at h
  obtain ⟨⟨hx, hq⟩, hz⟩ := h
  have HX := hid hx; have HZ := hid hz
  have hq' : (q == V.self) = false := by simpa using hq
  have HV := hid hV
  have hl2 := hid (Nat.le_trans (dropL_le V.p q) hV.np4)
  clear hx hz hq hV
  obtain ⟨g, hg⟩ : ∃ g, raiseG V D = g := ⟨_, rfl⟩
  rw [hg] at HK
  have HG := hid (show addG D V.a V.am = g from hg)
  clear hg
  by_cases h0 : 0 ≤ g
  · simp only [h0, if_true] at HK
    go_enter Tryz.func85, Tryz.ntmps85
    go_wp2_with (first
      | (go_at_call 82; refine node_c ?_; rw [HX.out])
      | (go_at_call 87; refine has_c s1 ?_; rw [HZ.out])
      | (go_at_call 134; refine drop_c (St.pick 2 s0) HV.out.sp (Nat.le_trans HV.out.np4 (by omega)) ?_; rintro w2 s2; have s3 := s2.perm [2, 2])
      | (go_at_call 88; refine add_c s3 HV.out.sa HV.out.na4 HV.out.am.1 ?_; rintro w4 s4; rw [HG.out]; have s5 := s4.perm [2, 1])
      | (go_at_call 88; refine add_c s5 (dropL_sorted HV.out.sp q) hl2.out HV.out.pm.1 ?_; rintro w6 s6))
    exact HK.out _ ((ViewsA.close (s6.perm [3, 2, 0])))
  · simp only [h0, if_false] at HK
    go_enter Tryz.func85, Tryz.ntmps85
    go_wp2_with (first
      | (go_at_call 82; refine node_c ?_; rw [HX.out])
      | (go_at_call 87; refine has_c s1 ?_; rw [HZ.out])
      | (go_at_call 134; refine drop_c (St.pick 2 s0) HV.out.sp (Nat.le_trans HV.out.np4 (by omega)) ?_; rintro w2 s2; have s3 := s2.perm [2, 2])
      | (go_at_call 88; refine add_c s3 HV.out.sa HV.out.na4 HV.out.am.1 ?_; rintro w4 s4; rw [HG.out]))
    exact HK.out _ (ViewsA.close (s4.perm [3, 0, 1]))

theorem lower_c (st : St W w (ViewsA b V :: DiceA d D :: R)) (hV : VOK V) (K : ∀ w', St W w' (ViewsA b (lowerV V D q) :: DiceA d (lowerD V D q) :: R) → post (.returned (.bool (memB V.a q))) w') :
    Calls Tryz.prog 89 #[.pointer (some ⟨b, 0, none⟩), .int .i64 q, .pointer (some ⟨d, 0, none⟩)] w post := by
  have s0 := ViewsA.open st
  obtain ⟨z, hz⟩ : ∃ z, memB V.a q = z := ⟨_, rfl⟩
  unfold lowerV lowerD at K
  rw [hz] at K
  have HZ := hid hz
  have HV := hid hV
  clear hz hV
  cases z with
  | false =>
    simp only [Bool.false_eq_true, if_false] at K
    have HK := hid K; clear K
    go_enter Tryz.func89, Tryz.ntmps89
    go_wp2_with (go_at_call 134; refine drop_c (St.pick 1 s0) HV.out.sa (Nat.le_trans HV.out.na4 (by omega)) ?_; rintro w2 s2; rw [HZ.out]; rw [dropL_out (memB_false HZ.out)] at s2)
    exact HK.out _ (ViewsA.close (St.pick 1 s2))
  | true =>
    simp only [if_true] at K
    have HK := hid K; clear K
    go_enter Tryz.func89, Tryz.ntmps89
    go_wp2_with (first
      | (go_at_call 134; refine drop_c (St.pick 1 s0) HV.out.sa (Nat.le_trans HV.out.na4 (by omega)) ?_; rintro w2 s2; rw [HZ.out]; have s3 := s2.perm [2, 2])
      | (go_at_call 88; refine add_c s3 HV.out.sp HV.out.np4 HV.out.pm.1 ?_; rintro w4 s4))
    exact HK.out _ (ViewsA.close (s4.perm [3, 2, 0]))

theorem learn_no (st : St W w (ViewsA b V :: DiceA d D :: R)) (h : learnOk V q = false) (K : post (.returned (.bool false)) w) :
    Calls Tryz.prog 47 #[.pointer (some ⟨b, 0, none⟩), .int .i64 q, .pointer (some ⟨d, 0, none⟩)] w post := by
  have HK := hid K; clear K
  have s0 := ViewsA.open st
  have s1 := St.pick 1 s0
  have s2 := St.pick 2 s0
  have hc := s0.cell
  obtain ⟨x, hx⟩ : ∃ x, nodeB q = x := ⟨_, rfl⟩
  obtain ⟨z, hz⟩ : ∃ z, memB V.a q = z := ⟨_, rfl⟩
  obtain ⟨y, hy⟩ : ∃ y, memB V.p q = y := ⟨_, rfl⟩
  unfold learnOk at h
  have HX := hid hx; have HZ := hid hz; have HY := hid hy
  rw [hx, hz, hy] at h
  clear hx hz hy
  cases x with
  | false =>
    clear h
    go_enter Tryz.func47, Tryz.ntmps47
    go_wp2_with (go_at_call 82; refine node_c ?_; rw [HX.out])
    exact HK.out
  | true =>
    by_cases hq : q = V.self
    · subst hq
      clear h
      go_enter Tryz.func47, Tryz.ntmps47
      go_wp2_with (go_at_call 82; refine node_c ?_; rw [HX.out])
      exact HK.out
    · have hq' : (q == V.self) = false := by simpa using hq
      cases z with
      | true =>
        clear h hq
        go_enter Tryz.func47, Tryz.ntmps47
        go_wp2_with (first
          | (go_at_call 82; refine node_c ?_; rw [HX.out])
          | (go_at_call 87; refine has_c s1 ?_; rw [HZ.out]))
        exact HK.out
      | false =>
        cases y with
        | false => simp [hq] at h
        | true =>
          clear h hq
          go_enter Tryz.func47, Tryz.ntmps47
          go_wp2_with (first
            | (go_at_call 82; refine node_c ?_; rw [HX.out])
            | (go_at_call 87; refine has_c s1 ?_; rw [HZ.out])
            | (go_at_call 87; refine has_c s2 ?_; rw [HY.out]))
          exact HK.out

theorem learn_yes (st : St W w (ViewsA b V :: DiceA d D :: R)) (hV : VOK V) (h : learnOk V q = true)
    (K : ∀ w', St W w' (ViewsA b (learnV V D q) :: DiceA d (learnD V D q) :: R) → post (.returned (.bool true)) w') :
    Calls Tryz.prog 47 #[.pointer (some ⟨b, 0, none⟩), .int .i64 q, .pointer (some ⟨d, 0, none⟩)] w post := by
  unfold learnV learnD at K
  simp only [h, if_true] at K
  have HK := hid K; clear K
  have s0 := ViewsA.open st
  have s1 := St.pick 1 s0
  have s2 := St.pick 2 s0
  have hc := s0.cell
  unfold learnOk at h
  simp only [Bool.and_eq_true, decide_eq_true_eq, Bool.not_eq_true'] at h
  obtain ⟨⟨⟨hx, hq⟩, hz⟩, hy⟩ := h
  have HX := hid hx; have HZ := hid hz; have HY := hid hy
  have hq' : (q == V.self) = false := by simpa using hq
  have HV := hid hV
  clear hx hz hy hq hV
  go_enter Tryz.func47, Tryz.ntmps47
  go_wp2_with (first
    | (go_at_call 82; refine node_c ?_; rw [HX.out])
    | (go_at_call 87; refine has_c s1 ?_; rw [HZ.out])
    | (go_at_call 87; refine has_c s2 ?_; rw [HY.out])
    | (go_at_call 88; refine add_c (s0.perm [2, 2]) HV.out.sp HV.out.np4 HV.out.pm.1 ?_; rintro w4 s4))
  exact HK.out _ (ViewsA.close (s4.perm [2, 2, 0]))

end

end Go.Proofs.YtbpdchaeakihkaaGreat
