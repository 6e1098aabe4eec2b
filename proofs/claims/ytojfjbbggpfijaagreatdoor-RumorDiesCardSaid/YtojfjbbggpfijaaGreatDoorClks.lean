/- Clks: several texts, joined. Clocks: atomics, New, Next, See, Now, Site. -/
import Derived.Test.YtojfjbbggpfijaaGreatDoorMarks
import Derived.Test.YtojfjbbggpfijaaGreatDoorKeys
import Derived.Laws.LoneSync
import Derived.IntWalk
import Derived.Test.YtojfjbbggpfijaaGreatDoorTabsA
namespace Go.Proofs.YtojfjbbggpfijaaGreatDoor
open Go.RowKit Go.Qd

section
variable {W w : World} {R : List HP} {post : Ending → World → Prop} {b o : Nat}

theorem ild_c {x : Int} (hc : w.cell? ⟨b, o, none⟩ = some (.int .i64 x)) (K : post (.returned (.int .i64 x)) w) : Calls Tryz.prog 150 #[.pointer (some ⟨b, o, none⟩)] w post := by
  have HK := hid K; clear K
  have hld := run_call_load (P := Tryz.prog) Tryz.func179 (by kernel_rfl) (by kernel_rfl) (by kernel_rfl) .i64 (by kernel_rfl) hc
  go_enter Tryz.func150, Tryz.ntmps150
  go_wp2
  exact HK.out
theorem ist_c {x : Value} {y : Int} (hc : w.cell? ⟨b, o, none⟩ = some x) (hz : w.frozen? ⟨b, o, none⟩ = false) (K : post (.returned (.tuple #[])) (w.setCell ⟨b, o, none⟩ (.int .i64 y))) : Calls Tryz.prog 114 #[.pointer (some ⟨b, o, none⟩), .int .i64 y] w post := by
  have HK := hid K; clear K
  have hst := run_call_store (P := Tryz.prog) Tryz.func162 (by kernel_rfl) (by kernel_rfl) (by kernel_rfl) (by kernel_rfl) (k := .i64) (y := y) hc hz
  go_enter Tryz.func114, Tryz.ntmps114
  go_wp2
  go_end0
  exact HK.out
theorem ics_c {x y : Int} (hc : w.cell? ⟨b, o, none⟩ = some (.int .i64 x)) (hz : w.frozen? ⟨b, o, none⟩ = false) (K : post (.returned (.bool true)) (w.setCell ⟨b, o, none⟩ (.int .i64 y))) : Calls Tryz.prog 151 #[.pointer (some ⟨b, o, none⟩), .int .i64 x, .int .i64 y] w post := by
  have HK := hid K; clear K
  have hcs := run_call_cas_hit (P := Tryz.prog) Tryz.func180 (by kernel_rfl) (by kernel_rfl) (by kernel_rfl) .i64 (by kernel_rfl) (y := y) hc hz
  go_enter Tryz.func151, Tryz.ntmps151
  go_wp2
  exact HK.out

theorem clkRow {x y : Value} (s : St W w (row b 0 [x, y] :: R)) : w.cell? ⟨b, 0, none⟩ = some x ∧ w.cell? ⟨b, 1, none⟩ = some y ∧ w.frozen? ⟨b, 0, none⟩ = false :=
  ⟨s.rowCell (i := 0) rfl, by have := s.rowCell (i := 1) rfl; rwa [Nat.zero_add] at this, s.rowFree (i := 0) (by simp)⟩

theorem site_c {cnt site : Int} (st : St W w (row b 0 [.int .i64 cnt, .int .i64 site] :: R)) (K : post (.returned (.int .i64 site)) w) : Calls Tryz.prog 36 #[.pointer (some ⟨b, 0, none⟩)] w post := by
  have HK := hid K; clear K
  obtain ⟨c0, c1, c2⟩ := clkRow st
  go_enter Tryz.func36, Tryz.ntmps36
  go_wp2_with fail
  exact HK.out

set_option maxRecDepth 100000 in
set_option maxHeartbeats 1000000 in
/-- The next stamp, where there is one. -/
theorem next_c {cnt site : Int} (h : cnt < 4294967295) (h0 : 0 ≤ cnt) (st : St W w (row b 0 [.int .i64 cnt, .int .i64 site] :: R))
    (K : ∀ w', St W w' (row b 0 [.int .i64 (cnt + 1), .int .i64 site] :: R) → post (.returned (.tuple #[.agg [Value.int .i64 (cnt + 1), .int .i64 site].toArray, .int .i64 0])) w') :
    Calls Tryz.prog 97 #[.pointer (some ⟨b, 0, none⟩)] w post := by
  have HK := hid K; clear K
  have hw : IntKind.i64.wrap (cnt + 1) = cnt + 1 := IntWalk.i64_in _ (by omega)
  have hd : decide (4294967295 ≤ cnt) = false := decide_eq_false (by omega)
  clear h h0
  go_enter Tryz.func97, Tryz.ntmps97
  go_wp2_with (refine wpl_allocA rfl rfl zero_stOf st ?_; rintro T w1 s1)
  go_loopw [] (fun wr => wr = w1) (fun _ => 0)
  case atStart => rfl
  case round =>
    subst hrel
    obtain ⟨c0, c1, c2⟩ := clkRow (St.pick 1 s1)
    have s2 := (St.pick 1 s1).rowSet (i := 0) (by simp) (.int .i64 (cnt + 1))
    have s3 : St W _ (row b 0 [.int .i64 (cnt + 1), .int .i64 site] :: row T 0 [.int .i64 0, .int .i64 0] :: R) := s2
    obtain ⟨d0, d1, d2⟩ := clkRow s3
    go_wp2_with (first
      | (go_at_call 150; refine ild_c c0 ?_)
      | (go_at_call 151; refine ics_c c0 c2 ?_)
      | (refine wpl_build rfl rfl (v := .agg [Value.int .i64 (cnt + 1), .int .i64 site].toArray) (by kernel_rfl) ?_)
      | (refine wpl_storeA (vs := [.int .i64 (cnt + 1), .int .i64 site]) rfl (.tmp 2) (.tmp 25) (by rfl) agg_st (by rfl) (by rfl) rfl (by simp [Value.oneCell']) (St.pick 1 s3) rfl ?_; rintro w5 s5))
    have hL := run_loadA agg_st rfl s5.rowAll
    exact bodyPost_ret (v := .tuple #[.agg [Value.int .i64 (cnt + 1), .int .i64 site].toArray, .int .i64 0]) (by simp [results, Tryz.results97, asAddr, hL]) rfl (HK.out _ s5.drop)

set_option maxRecDepth 100000 in
set_option maxHeartbeats 1000000 in
/-- There is no next stamp. -/
theorem next_no {cnt site : Int} (h : 4294967295 ≤ cnt) (st : St W w (row b 0 [.int .i64 cnt, .int .i64 site] :: R))
    (K : ∀ w', St W w' (row b 0 [.int .i64 cnt, .int .i64 site] :: R) → post (.returned (.tuple #[.agg [Value.int .i64 0, .int .i64 0].toArray, .int .i64 8])) w') :
    Calls Tryz.prog 97 #[.pointer (some ⟨b, 0, none⟩)] w post := by
  have HK := hid K; clear K
  have hd : decide (4294967295 ≤ cnt) = true := decide_eq_true h
  clear h
  go_enter Tryz.func97, Tryz.ntmps97
  go_wp2_with (refine wpl_allocA rfl rfl zero_stOf st ?_; rintro T w1 s1)
  go_loopw [] (fun wr => wr = w1) (fun _ => 0)
  case atStart => rfl
  case round =>
    subst hrel
    obtain ⟨c0, c1, c2⟩ := clkRow (St.pick 1 s1)
    go_wp2_with (first
      | (go_at_call 150; refine ild_c c0 ?_)
      | (refine wpl_build rfl rfl (v := .agg [Value.int .i64 0, .int .i64 0].toArray) (by kernel_rfl) ?_)
      | (refine wpl_storeA (vs := [.int .i64 0, .int .i64 0]) rfl (.tmp 2) (.tmp 11) (by rfl) agg_st (by rfl) (by rfl) rfl (by simp [Value.oneCell']) s1 rfl ?_; rintro w5 s5))
    have hL := run_loadA agg_st rfl s5.rowAll
    exact bodyPost_ret (v := .tuple #[.agg [Value.int .i64 0, .int .i64 0].toArray, .int .i64 8]) (by simp [results, Tryz.results97, asAddr, hL]) rfl (HK.out _ s5.drop)

set_option maxRecDepth 100000 in
set_option maxHeartbeats 1000000 in
/-- A clock that is new. -/
theorem clkNew_c {site : Int} (h : 0 ≤ site ∧ site < 12) (st : St W w R)
    (K : ∀ b w', St W w' (row b 0 [.int .i64 0, .int .i64 site] :: R) → post (.returned (.tuple #[.pointer (some ⟨b, 0, none⟩), .int .i64 0])) w') :
    Calls Tryz.prog 72 #[.int .i64 site, .int .i64 0] w post := by
  have HK := hid K; clear K
  have h1 : decide (site < 0) = false := decide_eq_false (by omega)
  have h2 : decide (12 ≤ site) = false := decide_eq_false (by omega)
  clear h
  go_enter Tryz.func72, Tryz.ntmps72
  go_wp2_with (first
    | (refine wpl_build rfl rfl (v := .agg [Value.int .i64 0, .int .i64 site].toArray) (by kernel_rfl) ?_)
    | (refine wpl_boxA (vs := [.int .i64 0, .int .i64 site]) rfl (.tmp 22) rfl rfl st ?_; rintro T w1 s1; obtain ⟨c0, c1, c2⟩ := clkRow s1)
    | (go_at_call 114; refine ist_c c0 c2 ?_))
  have s2 := s1.rowSet (i := 0) (by simp) (.int .i64 0)
  exact HK.out _ _ s2
end

section
attribute [local go_sem ↓] execOp_ldAny
variable {W w : World} {R : List HP} {post : Ending → World → Prop} {b o : Nat}
set_option maxRecDepth 100000 in
set_option maxHeartbeats 1000000 in
/-- There is a stamp. -/
theorem see_c {cnt site c s : Int} (st : St W w (row b 0 [.int .i64 cnt, .int .i64 site] :: R))
    (K : ∀ w', St W w' (row b 0 [.int .i64 (if (stampB c s && decide (cnt < c)) = true then c else cnt), .int .i64 site] :: R) → post (.returned (.bool (stampB c s && decide (cnt < c)))) w') :
    Calls Tryz.prog 116 #[.pointer (some ⟨b, 0, none⟩), .agg [Value.int .i64 c, .int .i64 s].toArray] w post := by
  have HK := K; clear K
  have hsee : ∀ {T : Nat} {w : World} {R : List HP}, St W w (row T 0 [.int .i64 c, .int .i64 s] :: R) → (loadG 57 (.pointer (some ⟨T, 0, none⟩))).run Tryz.prog w = .ok (.agg #[Value.int .i64 c, .int .i64 s]) w :=
    fun h => run_loadG agg_st (vs := [.int .i64 c, .int .i64 s]) rfl h.rowAll
  cases hb : stampB c s with
  | false =>
    rw [hb] at HK
    simp only [Bool.false_and, Bool.false_eq_true, if_false] at HK
    have HK2 := hid HK; clear HK
    have HB := hid hb; clear hb
    go_enter Tryz.func116, Tryz.ntmps116
    go_wp2_with (first
      | (refine wpl_boxA (vs := [.int .i64 c, .int .i64 s]) rfl (.tmp 1) rfl rfl st ?_; rintro T w1 s1; have cT := hsee s1)
      | (go_at_call 99; refine stampGood_c s1 ?_; rintro w2 s2; rw [HB.out]))
    exact HK2.out _ s2.drop
  | true =>
    rw [hb] at HK
    simp only [Bool.true_and] at HK
    have HB := hid hb; clear hb
    by_cases hlt : cnt < c
    · rw [decide_eq_true hlt, if_pos rfl] at HK
      have HK2 := hid HK; clear HK
      have hd : decide (c ≤ cnt) = false := decide_eq_false (by omega)
      clear hlt
      go_enter Tryz.func116, Tryz.ntmps116
      go_wp2_with (first
        | (refine wpl_boxA (vs := [.int .i64 c, .int .i64 s]) rfl (.tmp 1) rfl rfl st ?_; rintro T w1 s1; have cT := hsee s1)
        | (go_at_call 99; refine stampGood_c s1 ?_; rintro w2 s2; rw [HB.out]))
      go_loopw [] (fun wr => wr = w2) (fun _ => 0)
      case atStart => rfl
      case round =>
        subst hrel
        obtain ⟨c0, c1, c2⟩ := clkRow (St.pick 1 s2)
        obtain ⟨d0, d1⟩ := stL s2
        go_wp2_with (go_at_call 150; refine ild_c c0 ?_)
        try simp only [Act.put, List.setIfInBounds_toArray, List.set_cons_succ, List.set_cons_zero]
        have hN : Nonempty (Cls fun w' => St W w' (row T 0 [.int .i64 c, .int .i64 s] :: row b 0 [.int .i64 cnt, .int .i64 site] :: R)) := Cls.inh s2
        have f0 := fun x : Cls (fun w' => St W w' (row T 0 [.int .i64 c, .int .i64 s] :: row b 0 [.int .i64 cnt, .int .i64 site] :: R)) => (stL x.h).1
        refine wp_region_class_tail (fun w' => St W w' (row T 0 [.int .i64 c, .int .i64 s] :: row b 0 [.int .i64 cnt, .int .i64 site] :: R)) 6 (by kernel_rfl) (by kernel_rfl) s2.drew ?_
        simp only [List.take_succ_cons, List.take_zero, List.drop_succ_cons, List.drop_zero]
        repeat (go_big_quiet_step (fail))
        refine wpQuiet_nil ?_
        rintro ⟨w5, s5⟩
        dsimp only
        obtain ⟨e0, e1, e2⟩ := clkRow (St.pick 1 s5)
        go_wp2_with (go_at_call 151; refine ics_c e0 e2 ?_)
        have s6 := (St.pick 1 s5).rowSet (i := 0) (by simp) (.int .i64 c)
        exact HK2.out _ ((St.pick 1 s6).drop)
    · rw [decide_eq_false hlt] at HK
      simp only [Bool.false_eq_true, if_false] at HK
      have HK2 := hid HK; clear HK
      have hd : decide (c ≤ cnt) = true := decide_eq_true (by omega)
      clear hlt
      go_enter Tryz.func116, Tryz.ntmps116
      go_wp2_with (first
        | (refine wpl_boxA (vs := [.int .i64 c, .int .i64 s]) rfl (.tmp 1) rfl rfl st ?_; rintro T w1 s1; have cT := hsee s1)
        | (go_at_call 99; refine stampGood_c s1 ?_; rintro w2 s2; rw [HB.out]))
      go_loopw [] (fun wr => wr = w2) (fun _ => 0)
      case atStart => rfl
      case round =>
        subst hrel
        obtain ⟨c0, c1, c2⟩ := clkRow (St.pick 1 s2)
        obtain ⟨d0, d1⟩ := stL s2
        go_wp2_with (go_at_call 150; refine ild_c c0 ?_)
        exact HK2.out _ s2.drop
end
end Go.Proofs.YtojfjbbggpfijaaGreatDoor

/- Entries: which is newer, their marks, what is put. -/
namespace Go.Proofs.YtojfjbbggpfijaaGreatDoor
open Go.RowKit Go.Qd

theorem enParts {W w : World} {R : List HP} {T : Nat} {e : EnV} (s : St W w (row T 0 e.cells :: R)) :
    (w.cell? ⟨T, 0, none⟩ = some (.string e.key) ∧ w.cell? ⟨T, 1, none⟩ = some (.string e.val) ∧ w.cell? ⟨T, 2, none⟩ = some (.bool e.dead) ∧ w.cell? ⟨T, 7, none⟩ = some (.int .i64 e.kp) ∧ w.cell? ⟨T, 8, none⟩ = some (.int .i64 e.age)) ∧
    (∀ j u, [Value.int .i64 e.sc, .int .i64 e.ss][j]? = some u → w.cell? ⟨T, 3 + j, none⟩ = some u) ∧ (∀ j u, [Value.int .i64 e.ac, .int .i64 e.az][j]? = some u → w.cell? ⟨T, 5 + j, none⟩ = some u) := by
  have f : ∀ i v, e.cells[i]? = some v → w.cell? ⟨T, i, none⟩ = some v := fun i v hv => by have := s.rowCell hv; rwa [Nat.zero_add] at this
  refine ⟨⟨f 0 _ rfl, f 1 _ rfl, f 2 _ rfl, f 7 _ rfl, f 8 _ rfl⟩, ?_, ?_⟩
  · have := St.rowPart s 3 (xs := [Value.int .i64 e.sc, .int .i64 e.ss]) (ys := [.int .i64 e.ac, .int .i64 e.az, .int .i64 e.kp, .int .i64 e.age]) rfl
    rwa [Nat.zero_add] at this
  · have := St.rowPart s 5 (xs := [Value.int .i64 e.ac, .int .i64 e.az]) (ys := [.int .i64 e.kp, .int .i64 e.age]) rfl
    rwa [Nat.zero_add] at this

section
variable {W w : World} {R : List HP} {post : Ending → World → Prop}

set_option maxRecDepth 100000 in
set_option maxHeartbeats 1000000 in
theorem newer_c {a b : EnV} (st : St W w R) (K : ∀ w', St W w' R → post (.returned (.bool (newerB a b))) w') : Calls Tryz.prog 119 #[.agg a.cells.toArray, .agg b.cells.toArray] w post := by
  unfold newerB at K
  have HK := K; clear K
  obtain ⟨x, hx⟩ : ∃ x, cmpS a.sc a.ss b.sc b.ss = x := ⟨_, rfl⟩
  obtain ⟨y, hy⟩ : ∃ y, cmpS a.ac a.az b.ac b.az = y := ⟨_, rfl⟩
  rw [hx, hy] at HK
  have HX := hid hx; have HY := hid hy
  clear hx hy
  by_cases h0 : x = 0
  · rw [if_pos h0] at HK
    subst h0
    have HK2 := hid HK; clear HK
    go_enter Tryz.func119, Tryz.ntmps119
    go_wp2_with (first
      | (refine wpl_boxA (vs := a.cells) rfl (.tmp 0) rfl rfl st ?_; rintro T w1 s1)
      | (refine wpl_boxA (vs := b.cells) rfl (.tmp 1) rfl rfl s1 ?_; rintro U w2 s2; obtain ⟨a0, a1, a2⟩ := enParts (St.pick 1 s2); obtain ⟨b0, b1, b2⟩ := enParts s2)
      | (refine wpl_loadA (vs := [.int .i64 a.sc, .int .i64 a.ss]) rfl (.tmp 6) (by rfl) agg_st (by rfl) rfl a1 ?_)
      | (refine wpl_loadA (vs := [.int .i64 b.sc, .int .i64 b.ss]) rfl (.tmp 8) (by rfl) agg_st (by rfl) rfl b1 ?_)
      | (go_at_call 100; refine cmpS_c s2 ?_; rintro w3 s3; rw [HX.out]; obtain ⟨c0, c1, c2⟩ := enParts (St.pick 1 s3); obtain ⟨d0, d1, d2⟩ := enParts s3)
      | (refine wpl_loadA (vs := [.int .i64 a.ac, .int .i64 a.az]) rfl (.tmp 15) (by rfl) agg_st (by rfl) rfl c2 ?_)
      | (refine wpl_loadA (vs := [.int .i64 b.ac, .int .i64 b.az]) rfl (.tmp 17) (by rfl) agg_st (by rfl) rfl d2 ?_)
      | (go_at_call 100; refine cmpS_c s3 ?_; rintro w4 s4; rw [HY.out]))
    exact HK2.out _ (s4.dropN 2)
  · rw [if_neg h0] at HK
    have hb : (x != 0) = true := by simp [h0]
    have HK2 := hid HK; clear HK
    go_enter Tryz.func119, Tryz.ntmps119
    go_wp2_with (first
      | (refine wpl_boxA (vs := a.cells) rfl (.tmp 0) rfl rfl st ?_; rintro T w1 s1)
      | (refine wpl_boxA (vs := b.cells) rfl (.tmp 1) rfl rfl s1 ?_; rintro U w2 s2; obtain ⟨a0, a1, a2⟩ := enParts (St.pick 1 s2); obtain ⟨b0, b1, b2⟩ := enParts s2)
      | (refine wpl_loadA (vs := [.int .i64 a.sc, .int .i64 a.ss]) rfl (.tmp 6) (by rfl) agg_st (by rfl) rfl a1 ?_)
      | (refine wpl_loadA (vs := [.int .i64 b.sc, .int .i64 b.ss]) rfl (.tmp 8) (by rfl) agg_st (by rfl) rfl b1 ?_)
      | (go_at_call 100; refine cmpS_c s2 ?_; rintro w3 s3; rw [HX.out]))
    exact HK2.out _ (s3.dropN 2)

set_option maxRecDepth 100000 in
set_option maxHeartbeats 1000000 in
theorem emark_c {e : EnV} (st : St W w R) (K : ∀ w', St W w' R → post (.returned (.agg e.mark.cells.toArray)) w') : Calls Tryz.prog 53 #[.agg e.cells.toArray] w post := by
  have HK := hid K; clear K
  go_enter Tryz.func53, Tryz.ntmps53
  go_wp2_with (first
    | (refine wpl_boxA (vs := e.cells) rfl (.tmp 0) rfl rfl st ?_; rintro T w1 s1)
    | (refine wpl_allocA rfl rfl zero_mkOf s1 ?_; rintro U w2 s2; obtain ⟨⟨a0, _, _, _, _⟩, a1, a2⟩ := enParts (St.pick 1 s2))
    | (refine wpl_loadA (vs := [.int .i64 e.ac, .int .i64 e.az]) rfl (.tmp 3) (by rfl) agg_st (by rfl) rfl a2 ?_)
    | (refine wpl_build rfl rfl (v := .agg e.mark.cells.toArray) (by kernel_rfl) ?_)
    | (refine wpl_storeA (vs := e.mark.cells) rfl (.tmp 2) (.tmp 7) (by rfl) agg_mk (by rfl) (by rfl) rfl (mk_one _) s2 rfl ?_; rintro w3 s3))
  have hL := run_loadA agg_mk rfl s3.rowAll
  exact bodyPost_ret (v := .agg e.mark.cells.toArray) (by simp [results, Tryz.results53, asAddr, hL, Act.put]) rfl (HK.out _ (s3.dropN 2))

set_option maxRecDepth 100000 in
set_option maxHeartbeats 1000000 in
theorem checked_c {e : EnV} (st : St W w R) (K : ∀ w', St W w' R → post (.returned (.tuple #[.agg (if checkE e = 0 then e else EnV.zero).cells.toArray, .int .i64 (checkE e)])) w') :
    Calls Tryz.prog 93 #[.agg e.cells.toArray] w post := by
  have HK := K; clear K
  obtain ⟨x, hx⟩ : ∃ x, checkE e = x := ⟨_, rfl⟩
  rw [hx] at HK
  have HX := hid hx
  clear hx
  by_cases h0 : x = 0
  · rw [if_pos h0] at HK
    subst h0
    have HK2 := hid HK; clear HK
    go_enter Tryz.func93, Tryz.ntmps93
    go_wp2_with (first
      | (refine wpl_boxA (vs := e.cells) rfl (.tmp 0) rfl rfl st ?_; rintro T w1 s1)
      | (refine wpl_allocA rfl rfl zero_en s1 ?_; rintro U w2 s2)
      | (refine wpl_loadA (vs := e.cells) rfl (.tmp 1) (by rfl) agg_en (by rfl) rfl (St.pick 1 s2).rowAll ?_)
      | (go_at_call 50; refine check_c s2 ?_; rintro w3 s3; rw [HX.out])
      | (refine wpl_loadA (vs := e.cells) rfl (.tmp 1) (by rfl) agg_en (by rfl) rfl (St.pick 1 s3).rowAll ?_)
      | (refine wpl_storeA (vs := e.cells) rfl (.tmp 2) (.tmp 11) (by rfl) agg_en (by rfl) (by rfl) rfl (env_one _) s3 rfl ?_; rintro w4 s4))
    have hL := run_loadA agg_en rfl s4.rowAll
    exact bodyPost_ret (v := .tuple #[.agg e.cells.toArray, .int .i64 0]) (by simp [results, Tryz.results93, asAddr, hL]) rfl (HK2.out _ (s4.dropN 2))
  · rw [if_neg h0] at HK
    have hb : (x != 0) = true := by simp [h0]
    have HK2 := hid HK; clear HK
    go_enter Tryz.func93, Tryz.ntmps93
    go_wp2_with (first
      | (refine wpl_boxA (vs := e.cells) rfl (.tmp 0) rfl rfl st ?_; rintro T w1 s1)
      | (refine wpl_allocA rfl rfl zero_en s1 ?_; rintro U w2 s2)
      | (refine wpl_loadA (vs := e.cells) rfl (.tmp 1) (by rfl) agg_en (by rfl) rfl (St.pick 1 s2).rowAll ?_)
      | (go_at_call 50; refine check_c s2 ?_; rintro w3 s3; rw [HX.out])
      | (refine wpl_build rfl rfl (v := .agg EnV.zero.cells.toArray) (by kernel_rfl) ?_)
      | (refine wpl_storeA (vs := EnV.zero.cells) rfl (.tmp 2) (.tmp 9) (by rfl) agg_en (by rfl) (by rfl) rfl (env_one _) s3 rfl ?_; rintro w4 s4))
    have hL := run_loadA agg_en rfl s4.rowAll
    exact bodyPost_ret (v := .tuple #[.agg EnV.zero.cells.toArray, .int .i64 x]) (by simp [results, Tryz.results93, asAddr, hL]) rfl (HK2.out _ (s4.dropN 2))

set_option maxRecDepth 100000 in
set_option maxHeartbeats 1000000 in
theorem eput_c {k v : ByteArray} {c s : Int} (st : St W w R)
    (K : ∀ w', St W w' R → post (.returned (.tuple #[.agg (if checkE (putE k v c s) = 0 then putE k v c s else EnV.zero).cells.toArray, .int .i64 (checkE (putE k v c s))])) w') :
    Calls Tryz.prog 47 #[.string k, .string v, .agg [Value.int .i64 c, .int .i64 s].toArray] w post := by
  obtain ⟨f, hf⟩ : ∃ f, (if checkE (putE k v c s) = 0 then putE k v c s else EnV.zero) = f := ⟨_, rfl⟩
  rw [hf] at K
  have HF := hid hf
  clear hf
  have HK := hid K; clear K
  go_enter Tryz.func47, Tryz.ntmps47
  go_wp2_with (first
    | (refine wpl_boxA (vs := [.int .i64 c, .int .i64 s]) rfl (.tmp 2) rfl rfl st ?_; rintro T w1 s1)
    | (refine wpl_allocA rfl rfl zero_en s1 ?_; rintro U w2 s2)
    | (refine wpl_loadA (vs := [.int .i64 c, .int .i64 s]) rfl (.tmp 5) (by rfl) agg_st (by rfl) rfl (St.pick 1 s2).rowAll ?_)
    | (refine wpl_build rfl rfl (v := .agg (putE k v c s).cells.toArray) (by kernel_rfl) ?_)
    | (go_at_call 93; refine checked_c s2 ?_; rintro w3 s3; rw [HF.out])
    | (refine wpl_storeA (vs := f.cells) rfl (.tmp 6) (.tmp 14) (by rfl) agg_en (by rfl) (by rfl) rfl (env_one _) s3 rfl ?_; rintro w4 s4))
  have hL := run_loadA agg_en rfl s4.rowAll
  exact bodyPost_ret (v := .tuple #[.agg f.cells.toArray, .int .i64 (checkE (putE k v c s))]) (by simp [results, Tryz.results47, asAddr, hL]) rfl (HK.out _ (s4.dropN 2))
end
end Go.Proofs.YtojfjbbggpfijaaGreatDoor
