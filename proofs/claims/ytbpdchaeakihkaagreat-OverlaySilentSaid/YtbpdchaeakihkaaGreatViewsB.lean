/- views: add. -/
import Derived.Test.YtbpdchaeakihkaaGreatViewsA
namespace Go.Proofs.YtbpdchaeakihkaaGreat
open Go.RowKit Go.Qd

theorem ivs_ins {l : List Int} (hs : l.Pairwise (· < ·)) (p : Int) {i : Nat} (hi : l.countP (· < p) = i) : (ivs l).take (i * 1) ++ [iv p] ++ (ivs l).drop (i * 1) = ivs (insL l p) := by
  rw [← insL_eq hs p, hi]; simp [ivs, List.map_take, List.map_drop]

theorem add_room {W w : World} {R : List HP} {post : Ending → World → Prop} {b o d : Nat} {l : List Int} {most p : Int} (st : St W w (SetA b o l most :: R)) (hs : l.Pairwise (· < ·)) (hn : l.length ≤ 4095) (hf : (l.length : Int) < most)
    (K : ∀ w', St W w' (SetA b o (insL l p) most :: R) → post (.returned (.int .i64 (-1))) w') : Calls Tryz.prog 88 #[.pointer (some ⟨b, o, none⟩), .int .i64 p, .pointer (some ⟨d, 0, none⟩)] w post := by
  have HK := hid K; clear K
  have hfl := hid (show decide (most ≤ (l.length : Int)) = false by rw [decide_eq_false_iff_not]; omega)
  obtain ⟨i, hi'⟩ : ∃ i, l.countP (· < p) = i := ⟨_, rfl⟩
  have hil : i ≤ l.length := by rw [← hi']; exact List.countP_le_length
  have HI := hid hi'; have HS := hid hs
  have HE := hid (ivs_ins hs p hi')
  clear hi' hf hs
  go_enter Tryz.func88, Tryz.ntmps88
  go_wp2_with (go_at_call 135; refine full_c st ?_; rintro w1 s1; rw [hfl.out]; obtain ⟨ao, n, c, s2⟩ := SetA.open s1; obtain ⟨h0, _, _⟩ := row2 s2; have rd := OwnS.rd (St.pick 1 s2); have hl := ivs_len rd; have hn4 : n ≤ 4095 := (by omega); have hin : i ≤ n := (by omega); clear hl)
  go_wp2_with (first
    | (go_at_call 136; refine search_c s2 rd HS.out (by omega) ?_; rintro w3 s3; rw [HI.out]; obtain ⟨g0, _, _⟩ := row2 s3; have s4 := s3.alloc #[.int .i64 p] 3; have s5 : St W _ (OwnS 1 ao n c (ivs l) :: row w3.heap.size 0 [iv p] :: _) := (s4.perm [2, 0]))
    | (go_at_call 137; refine insertI_c s5 (heap_alloc_new _ _) rfl rfl (by simp [Value.oneCell']) hin (by omega) ?_; rintro a6 c6 w6 s6; rw [HE.out] at s6; obtain ⟨k0, _, kf⟩ := row2 (St.pick 1 s6)))
  have s7 := (St.pick 1 s6).rowSet (i := 0) (by simp) (.slice a6 (n + 1) c6)
  exact HK.out _ (SetA.close s7)

/-- What gives way to a new one, and what dice are left. -/
def goneV (D l : List Int) : Int := pickV D l
def addL (D l : List Int) (most p : Int) : List Int := if most ≤ l.length then insL (dropL l (pickV D l)) p else insL l p
def addD (D l : List Int) (most : Int) : List Int := if most ≤ l.length then drawL D l.length else D
def addG (D l : List Int) (most : Int) : Int := if most ≤ l.length then pickV D l else -1

theorem pickV_mem {D l : List Int} (h : l ≠ []) : pickV D l ∈ l := by
  have hl : 0 < l.length := List.length_pos_iff.2 h
  obtain ⟨h1, h2⟩ := drawV_range (l := D) (n := (l.length : Int)) (by omega)
  unfold pickV
  have : (drawV D l.length).toNat < l.length := by omega
  simp [List.getD, this]

theorem add_full {W w : World} {R : List HP} {post : Ending → World → Prop} {b o d : Nat} {l D : List Int} {most p : Int} (st : St W w (SetA b o l most :: DiceA d D :: R)) (hs : l.Pairwise (· < ·)) (hn : l.length ≤ 4095) (hf : most ≤ l.length) (hne : l ≠ [])
    (K : ∀ w', St W w' (SetA b o (insL (dropL l (pickV D l)) p) most :: DiceA d (drawL D l.length) :: R) → post (.returned (.int .i64 (pickV D l))) w') : Calls Tryz.prog 88 #[.pointer (some ⟨b, o, none⟩), .int .i64 p, .pointer (some ⟨d, 0, none⟩)] w post := by
  have HK := hid K; clear K
  have hfl := hid (show decide (most ≤ (l.length : Int)) = true by rw [decide_eq_true_iff]; omega)
  have hm := pickV_mem (D := D) hne
  obtain ⟨q, hq⟩ : ∃ q, pickV D l = q := ⟨_, rfl⟩
  rw [hq] at HK hm
  have HQ := hid hq
  clear hq
  have hsd := dropL_sorted hs q
  have hld := dropL_len hs hm
  have hHS := hid hs; have HNE := hid hne
  obtain ⟨m, hml⟩ : ∃ m, dropL l q = m := ⟨_, rfl⟩
  rw [hml] at HK hsd hld
  have HM := hid hml
  obtain ⟨i, hi'⟩ : ∃ i, m.countP (· < p) = i := ⟨_, rfl⟩
  have hil : i ≤ m.length := by rw [← hi']; exact List.countP_le_length
  have HI := hid hi'; have HSD := hid hsd
  have HE := hid (ivs_ins hsd p hi')
  have hmn : m.length ≤ 4095 := by omega
  have HLN := hid hn
  clear hi' hf hs hml hld hm hne hn hsd
  go_enter Tryz.func88, Tryz.ntmps88
  go_wp2_with (first
    | (go_at_call 135; refine full_c st ?_; rintro w1 s1; rw [hfl.out]; obtain ⟨ao, n, c, s2⟩ := SetA.open s1; obtain ⟨h0, _, _⟩ := row2 s2)
    | (go_at_call 90; refine pick_c (St.pick 2 s2) (fun w' s' => OwnS.rd (St.pick 1 s')) ?_; rintro w3 s3; rw [if_neg HNE.out] at s3; rw [if_neg HNE.out, HQ.out]; have s4 := SetA.close (s3.perm [1, 1]))
    | (go_at_call 134; refine drop_c s4 hHS.out (Nat.le_trans HLN.out (by omega)) ?_; rintro w5 s5; rw [HM.out] at s5; obtain ⟨a6, n6, c6, s6⟩ := SetA.open s5; obtain ⟨g0, _, _⟩ := row2 s6; have rd := OwnS.rd (St.pick 1 s6); have hl := ivs_len rd; have hn4 : n6 ≤ 4095 := (by omega); have hin : i ≤ n6 := (by omega); clear hl))
  go_wp2_with (first
    | (go_at_call 136; refine search_c s6 rd HSD.out (by omega) ?_; rintro w7 s7; rw [HI.out]; obtain ⟨k0, _, _⟩ := row2 s7; have s8 := s7.alloc #[.int .i64 p] 3; have s9 : St W _ (OwnS 1 a6 n6 c6 (ivs m) :: row w7.heap.size 0 [iv p] :: _) := (s8.perm [2, 0]))
    | (go_at_call 137; refine insertI_c s9 (heap_alloc_new _ _) rfl rfl (by simp [Value.oneCell']) hin (by omega) ?_; rintro aA cA wA sA; rw [HE.out] at sA; obtain ⟨j0, _, jf⟩ := row2 (St.pick 1 sA)))
  have sB := (St.pick 1 sA).rowSet (i := 0) (by simp) (.slice aA (n6 + 1) cA)
  exact HK.out _ (SetA.close sB)

theorem add_c {W w : World} {R : List HP} {post : Ending → World → Prop} {b o d : Nat} {l D : List Int} {most p : Int} (st : St W w (SetA b o l most :: DiceA d D :: R)) (hs : l.Pairwise (· < ·)) (hn : l.length ≤ 4095) (hm : 1 ≤ most)
    (K : ∀ w', St W w' (SetA b o (addL D l most p) most :: DiceA d (addD D l most) :: R) → post (.returned (.int .i64 (addG D l most))) w') : Calls Tryz.prog 88 #[.pointer (some ⟨b, o, none⟩), .int .i64 p, .pointer (some ⟨d, 0, none⟩)] w post := by
  unfold addL addD addG at K
  by_cases h : most ≤ l.length
  · simp only [h, if_true] at K
    exact add_full st hs hn h (fun e => by subst e; simp at h; omega) K
  · simp only [h, if_false] at K
    exact add_room st hs hn (by omega) K

end Go.Proofs.YtbpdchaeakihkaaGreat
