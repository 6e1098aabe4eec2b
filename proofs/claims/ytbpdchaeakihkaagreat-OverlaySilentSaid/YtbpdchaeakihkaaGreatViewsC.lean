/- views: Views in memory, and what its methods do. -/
import Derived.Test.YtbpdchaeakihkaaGreatViewsB
namespace Go.Proofs.YtbpdchaeakihkaaGreat
open Go.RowKit Go.Qd

structure VV where
  self : Int
  a : List Int
  am : Int
  p : List Int
  pm : Int

def ViewsA (b : Nat) (V : VV) : HP := sepL [pt b 0 (iv V.self), SetA b 1 V.a V.am, SetA b 3 V.p V.pm]

def nodeB (p : Int) : Bool := decide (0 ≤ p) && decide (p < 12)
theorem nodeB_iff {p : Int} : nodeB p = true ↔ 0 ≤ p ∧ p < 12 := by simp [nodeB]

structure VOK (V : VV) : Prop where
  sa : V.a.Pairwise (· < ·)
  sp : V.p.Pairwise (· < ·)
  am : 1 ≤ V.am ∧ V.am ≤ 11
  pm : 1 ≤ V.pm ∧ V.pm ≤ 11
  la : (V.a.length : Int) ≤ V.am
  lp : (V.p.length : Int) ≤ V.pm
  na : ∀ x ∈ V.a, nodeB x = true ∧ x ≠ V.self
  np : ∀ x ∈ V.p, nodeB x = true ∧ x ≠ V.self
  dis : ∀ x ∈ V.a, x ∉ V.p

theorem VOK.na4 {V : VV} (h : VOK V) : V.a.length ≤ 4095 := by have := h.la; have := h.am; omega
theorem VOK.np4 {V : VV} (h : VOK V) : V.p.length ≤ 4095 := by have := h.lp; have := h.pm; omega

section
variable {W w : World} {R : List HP} {post : Ending → World → Prop} {b d : Nat} {V : VV} {D : List Int}

theorem ViewsA.open (st : St W w (ViewsA b V :: R)) : St W w (pt b 0 (iv V.self) :: SetA b 1 V.a V.am :: SetA b 3 V.p V.pm :: R) := (St.flat _).1 st
theorem ViewsA.close {self am pm : Int} {a p : List Int} (st : St W w (pt b 0 (iv self) :: SetA b 1 a am :: SetA b 3 p pm :: R)) : St W w (ViewsA b ⟨self, a, am, p, pm⟩ :: R) := (St.flat [pt b 0 (iv self), SetA b 1 a am, SetA b 3 p pm]).2 st

theorem node_c {p : Int} (K : post (.returned (.bool (nodeB p))) w) : Calls Tryz.prog 82 #[.int .i64 p] w post := by
  unfold nodeB at K
  by_cases h : 0 ≤ p
  · rw [decide_eq_true h, Bool.true_and] at K
    have HK := hid K; clear K
    go_enter Tryz.func82, Tryz.ntmps82
    go_wp2
    exact HK.out
  · rw [decide_eq_false h, Bool.false_and] at K
    have HK := hid K; clear K
    go_enter Tryz.func82, Tryz.ntmps82
    go_wp2
    exact HK.out

theorem views_new_c {self am pm : Int} (st : St W w R) (h : nodeB self = true ∧ (1 ≤ am ∧ am < 12) ∧ (1 ≤ pm ∧ pm < 12))
    (K : ∀ b w', St W w' (ViewsA b ⟨self, [], am, [], pm⟩ :: R) → post (.returned (.tuple #[.pointer (some ⟨b, 0, none⟩), .int .i64 0])) w') : Calls Tryz.prog 40 #[.int .i64 self, .int .i64 am, .int .i64 pm] w post := by
  have HK := hid K; clear K
  obtain ⟨h1, ⟨h2, h3⟩, h4, h5⟩ := h
  have H1 := hid h1
  have H2 := hid (show nodeB am = true by rw [nodeB_iff]; omega)
  have H3 := hid (show nodeB pm = true by rw [nodeB_iff]; omega)
  clear h1
  go_enter Tryz.func40, Tryz.ntmps40
  go_wp2_with (go_at_call 82; refine node_c ?_; first | rw [H1.out] | rw [H2.out] | rw [H3.out])
  have s1 := st.alloc #[.int .i64 self, .slice none 0 0, .int .i64 am, .slice none 0 0, .int .i64 pm] 119
  have s2 := St.rowCons.1 s1
  have s3 : St W _ (row w.heap.size 1 [.slice none 0 0, iv am] :: row w.heap.size 3 [.slice none 0 0, iv pm] :: pt w.heap.size 0 (iv self) :: R) := (St.rowAppend.1 (St.pick 1 s2 : St W _ (row w.heap.size 1 ([.slice none 0 0, iv am] ++ [.slice none 0 0, iv pm]) :: _)))
  have s4 := SetA.close (l := []) ((OwnS.none0 (sz := 1) s3).perm [1])
  have s5 := SetA.close (l := []) ((OwnS.none0 (sz := 1) (St.pick 1 s4)).perm [1])
  exact HK.out _ _ (ViewsA.close (s5.perm [2, 1]))

theorem views_new_no {self am pm : Int} (h : ¬ (nodeB self = true ∧ (1 ≤ am ∧ am < 12) ∧ (1 ≤ pm ∧ pm < 12)))
    (K : post (.returned (.tuple #[.pointer none, .int .i64 1])) w) : Calls Tryz.prog 40 #[.int .i64 self, .int .i64 am, .int .i64 pm] w post := by
  have HK := hid K; clear K
  obtain ⟨x, hx⟩ : ∃ x, nodeB self = x := ⟨_, rfl⟩
  obtain ⟨y, hy⟩ : ∃ y, nodeB am = y := ⟨_, rfl⟩
  obtain ⟨z, hz⟩ : ∃ z, nodeB pm = z := ⟨_, rfl⟩
  have HX := hid hx; have HY := hid hy; have HZ := hid hz; have HH := hid h
  clear hx hy hz h
  cases x with
  | false =>
    go_enter Tryz.func40, Tryz.ntmps40
    go_wp2_with (go_at_call 82; refine node_c (p := self) ?_; rw [HX.out])
    exact HK.out
  | true =>
    cases y with
    | false =>
      go_enter Tryz.func40, Tryz.ntmps40
      go_wp2_with (go_at_call 82; refine node_c ?_; first | rw [HX.out] | rw [HY.out])
      exact HK.out
    | true =>
      cases z with
      | false =>
        go_enter Tryz.func40, Tryz.ntmps40
        go_wp2_with (go_at_call 82; refine node_c ?_; first | rw [HX.out] | rw [HY.out] | rw [HZ.out])
        exact HK.out
      | true =>
        have hor : am < 1 ∨ pm < 1 := by
          have h1 := HH.out
          have h2 := nodeB_iff.1 HY.out
          have h3 := nodeB_iff.1 HZ.out
          rw [HX.out] at h1
          simp only [true_and] at h1
          omega
        by_cases ha : am < 1
        · clear hor
          go_enter Tryz.func40, Tryz.ntmps40
          go_wp2_with (go_at_call 82; refine node_c ?_; first | rw [HX.out] | rw [HY.out] | rw [HZ.out])
          exact HK.out
        · have hp : pm < 1 := by omega
          clear hor
          go_enter Tryz.func40, Tryz.ntmps40
          go_wp2_with (go_at_call 82; refine node_c ?_; first | rw [HX.out] | rw [HY.out] | rw [HZ.out])
          exact HK.out

theorem isActive_c {p : Int} (st : St W w (ViewsA b V :: R)) (K : post (.returned (.bool (memB V.a p))) w) : Calls Tryz.prog 46 #[.pointer (some ⟨b, 0, none⟩), .int .i64 p] w post := by
  have HK := hid K; clear K
  have s := St.pick 1 (ViewsA.open st)
  go_enter Tryz.func46, Tryz.ntmps46
  go_wp2_with (go_at_call 87; refine has_c s ?_)
  exact HK.out


theorem vfull_c (st : St W w (ViewsA b V :: R)) (K : ∀ w', St W w' (ViewsA b V :: R) → post (.returned (.bool (decide (V.am ≤ V.a.length)))) w') : Calls Tryz.prog 100 #[.pointer (some ⟨b, 0, none⟩)] w post := by
  have HK := hid K; clear K
  have s := St.pick 1 (ViewsA.open st)
  go_enter Tryz.func100, Tryz.ntmps100
  go_wp2_with (go_at_call 135; refine full_c s ?_; rintro w1 s1)
  exact HK.out _ (ViewsA.close (St.pick 1 s1))

theorem active_c (st : St W w (ViewsA b V :: R)) (hl : V.a.length ≤ 4096) (K : ∀ ao c w', St W w' (OwnS 1 ao V.a.length c (ivs V.a) :: ViewsA b V :: R) → post (.returned (.slice ao V.a.length c)) w') : Calls Tryz.prog 16 #[.pointer (some ⟨b, 0, none⟩)] w post := by
  have HK := hid K; clear K
  obtain ⟨ao, n, c, s⟩ := SetA.open (St.pick 1 (ViewsA.open st))
  obtain ⟨h0, _, _⟩ := row2 s
  have rd := OwnS.rd (St.pick 1 s)
  have hn := ivs_len rd
  rw [hn] at HK hl
  clear hn
  go_enter Tryz.func16, Tryz.ntmps16
  go_wp2_with (go_at_call 41; refine clone_c st rd (by omega) ?_; rintro a1 c1 w1 s1)
  exact HK.out _ _ _ s1

theorem passive_c (st : St W w (ViewsA b V :: R)) (hl : V.p.length ≤ 4096) (K : ∀ ao c w', St W w' (OwnS 1 ao V.p.length c (ivs V.p) :: ViewsA b V :: R) → post (.returned (.slice ao V.p.length c)) w') : Calls Tryz.prog 21 #[.pointer (some ⟨b, 0, none⟩)] w post := by
  have HK := hid K; clear K
  obtain ⟨ao, n, c, s⟩ := SetA.open (St.pick 2 (ViewsA.open st))
  obtain ⟨h0, _, _⟩ := row2 s
  have rd := OwnS.rd (St.pick 1 s)
  have hn := ivs_len rd
  rw [hn] at HK hl
  clear hn
  go_enter Tryz.func21, Tryz.ntmps21
  go_wp2_with (go_at_call 41; refine clone_c st rd (by omega) ?_; rintro a1 c1 w1 s1)
  exact HK.out _ _ _ s1

end

end Go.Proofs.YtbpdchaeakihkaaGreat
