/- The replica: Merge. Printed by mkRepK.py. -/
import Derived.Test.YtojfjbbggpfijaaGreatDoorRepsG
import Derived.Deep.DeepCutAuto
import Derived.Deep.RegionHeld3
import Derived.Deep.RegionLaw
namespace Go.Proofs.YtojfjbbggpfijaaGreatDoor
open Go.RowKit Go.Qd RepV

section
attribute [local go_sem ↓] execOp_ldAny
variable {W w : World} {R : List HP} {post : Ending → World → Prop} {A : RAd} {r : RepV}

theorem dead_age {e : EnV} (hc : checkE e = 0) (hd : e.dead = true) : 0 ≤ e.age ∧ e.age ≤ 2147483647 := by
  have := ((checkE_ok hc).2.2.2.2.2.2.2 hd).1
  simp only [keptB, Bool.and_eq_true, decide_eq_true_eq] at this
  omega
/-- The clock has seen a stamp. -/
theorem see_open {c s : Int} (st : St W w (row A.p 0 (repC A r) :: row A.clk 0 [.int .i64 (if (stampB c s && decide (r.cnt < c)) = true then c else r.cnt), .int .i64 r.site] :: TabE A.tb 0 r.room r.tab :: TabB A.ow 0 4096 r.own :: IdxH A.ix r.ix :: row A.gr 0 (graC A r) :: TabE A.gp 0 4096 r.gr :: JrnH A.jb A.d :: DskH A.d r.d :: R)) : St W w (RepA A (r.see c s) :: R) := by
  unfold RepV.see
  by_cases h : (stampB c s && decide (r.cnt < c)) = true
  · rw [if_pos h]; rw [if_pos h] at st; exact RepA.open.2 st
  · rw [if_neg h]; rw [if_neg h] at st; exact RepA.open.2 st

attribute [local go_sem ↓] execOp_stE in
set_option maxRecDepth 100000 in
set_option maxHeartbeats 8000000 in
theorem merge_old1 {e x : EnV} {q : RepV} (h : RepOK r) (hc : checkE e = 0) (hq : r.see e.ac e.az = q) (hx : tget q.tab e.key = x) (hb : thas q.tab e.key = true) (hn : newerB e x = false) (hd : x.dead = false) (st : St W w (RepA A r :: R))
    (K : ∀ w', St W w' (RepA A q :: R) → post (.returned (.tuple #[.int .i64 0, .agg EnV.zero.cells.toArray, .int .i64 0])) w') :
    Calls Tryz.prog 90 #[.pointer (some ⟨A.p, 0, none⟩), .agg e.cells.toArray] w post := by
  have HK := hid K; clear K
  have hqo : RepOK q := by rw [← hq]; exact h.see _ _
  have HQO := hid hqo; have HQ := hid hq; have HB := hid hb; have HE := hid hx; have HC := hid hc
  have HL : Hid (q.tab.length ≤ 4096) := hid (by have := hqo.len; have := hqo.room; omega)
  have HN := hid hn; have HD := hid hd
  clear hn hd
  clear hqo hq hb hx hc h
  go_enter Tryz.func90, Tryz.ntmps90
  go_wp2_with (first
    | (refine wpl_boxA (vs := e.cells) rfl (.tmp 1) rfl rfl st ?_; rintro T w1 s1)
    | (refine wpl_allocA rfl rfl zero_en s1 ?_; rintro V w2 s2; have s3 : St W w2 (RepA A r :: row T 0 e.cells :: row V 0 EnV.zero.cells :: R) := s2.perm [2, 1]; have gT := run_loadG agg_en (vs := e.cells) rfl (St.pick 1 s3).rowAll)
    | (go_at_call 50; refine check_c s3 ?_; rintro w4 s4; rw [HC.out]))
  try simp only [Act.put, List.setIfInBounds_toArray, List.set_cons_succ, List.set_cons_zero]
  have hN_s5 : Nonempty (Cls (fun w' => St W w' (RepA A r :: row T 0 e.cells :: row V 0 EnV.zero.cells :: R))) := Cls.inh s4
  have f5_s5 := fun s : Cls (fun w' => St W w' (RepA A r :: row T 0 e.cells :: row V 0 EnV.zero.cells :: R)) => (repLd s.h).1
  have gA_s5 := fun s : Cls (fun w' => St W w' (RepA A r :: row T 0 e.cells :: row V 0 EnV.zero.cells :: R)) => (enL (St.pick 1 s.h)).2.2.2.2.1
  refine wp_region_class_tail (fun w' => St W w' (RepA A r :: row T 0 e.cells :: row V 0 EnV.zero.cells :: R)) 6 (by kernel_rfl) (by kernel_rfl) (St.drew s4) ?_
  simp only [List.take_succ_cons, List.take_zero, List.drop_succ_cons, List.drop_zero]
  repeat (go_big_quiet_step ((fail)))
  clear hN_s5 f5_s5 gA_s5
  refine wpQuiet_nil ?_
  rintro ⟨w5, s5⟩
  dsimp only
  go_upto_region 5 with (go_at_call 116; refine see_c (St.pick 1 (RepA.open.1 s5)) ?_; rintro w6 s6; have s7 : St W w6 (RepA A q :: row T 0 e.cells :: row V 0 EnV.zero.cells :: R) := (by rw [← HQ.out]; exact see_open (s6.perm [1])))
  go_cut [8, 9] (fun p v wx => ∃ U, p = .pointer (some ⟨U, 0, none⟩) ∧ v = .bool true ∧ St W wx (RepA A q :: row U 0 x.cells :: row T 0 e.cells :: row V 0 EnV.zero.cells :: R))
  case first =>
    have u : St W w6.drew (RepA A q :: row T 0 e.cells :: row V 0 EnV.zero.cells :: R) := s7.drew
    have gA := And.intro (repLd u).2.1 (enL (St.pick 1 u)).1
    have u2 := (s7.alloc EnV.zero.cells.toArray 67).drew
    have gB := And.intro (repLd (St.pick 1 u2)).2.1 (enL (St.pick 2 u2)).1
    have gz := zero_en
    have hone : oneG x.cells 9 := ⟨rfl, env_one _⟩
    go_region_held3 (fun w' => (loadG 110 (.pointer (some ⟨A.p, 7, none⟩))).run Tryz.prog w' = .ok (.pointer (some ⟨A.tb, 0, none⟩)) w' ∧ (loadG 9 (.pointer (some ⟨T, 0, none⟩))).run Tryz.prog w' = .ok (.string e.key) w')
      (first
        | with_reducible exact gE
        | with_reducible exact gD
        | with_reducible exact gC
        | with_reducible exact gB
        | with_reducible exact gA)
      (first
        | (go_at_call 44; first
            | (refine getE_c HQO.out.tab HL.out (St.pick 2 (RepA.open.1 u)) ?_; rintro w5 t5; rw [HB.out, HE.out]; have s5 : St W w5 (RepA A q :: row T 0 e.cells :: row V 0 EnV.zero.cells :: R) := RepA.open.2 (t5.perm [1, 1]); have gC := And.intro (repLd s5).2.1 (enL (St.pick 1 s5)).1; have u5 := s5.alloc EnV.zero.cells.toArray 67; have gD := And.intro (repLd (St.pick 1 u5)).2.1 (enL (St.pick 2 u5)).1; have rB := run_storeG agg_en (b := w5.heap.size) (o := 0) (u5.roomG rfl) hone; have u6 := u5.setAll (vs := x.cells) rfl; have gE := And.intro (repLd (St.pick 1 u6)).2.1 (enL (St.pick 2 u6)).1)
            | (refine getE_c HQO.out.tab HL.out (St.pick 2 (RepA.open.1 (St.pick 1 u2))) ?_; rintro w5 t5; rw [HB.out, HE.out]; have s5 : St W w5 (row w6.heap.size 0 EnV.zero.cells :: RepA A q :: row T 0 e.cells :: row V 0 EnV.zero.cells :: R) := St.pick 1 (RepA.open.2 (t5.perm [1, 1])); have gC := And.intro (repLd (St.pick 1 s5)).2.1 (enL (St.pick 2 s5)).1; have rB := run_storeG agg_en (b := w6.heap.size) (o := 0) (s5.roomG rfl) hone; have u6 := s5.setAll (vs := x.cells) rfl; have gE := And.intro (repLd (St.pick 1 u6)).2.1 (enL (St.pick 2 u6)).1)))
    all_goals
      go_wp2_with fail
      go_meet
      case rel => exact ⟨_, rfl, rfl, St.pick 1 u6⟩
  case rest =>
  obtain ⟨U, rfl, rfl, s8⟩ := hcut
  have lT := run_loadG agg_en (vs := e.cells) rfl (St.pick 2 s8).rowAll
  have lU := run_loadG agg_en (vs := x.cells) rfl (St.pick 1 s8).rowAll
  go_wp2_with (first
    | (go_at_call 119; refine newer_c s8 ?_; rintro w9 s9; rw [HN.out]; have dx := (enL (St.pick 1 s9)).2.2.1; have de := (enL (St.pick 2 s9)).2.2.1; rw [HD.out] at dx)
    | (refine wpl_build rfl rfl (v := .agg EnV.zero.cells.toArray) (by kernel_rfl) ?_)
    | (refine wpl_storeA (vs := EnV.zero.cells) rfl (.tmp 5) (.tmp 62) (by rfl) agg_en (by rfl) (by rfl) rfl (env_one _) (St.pick 3 s9) rfl ?_; rintro wz sz))
  have hL := run_loadA agg_en (vs := EnV.zero.cells) rfl sz.rowAll
  exact bodyPost_ret (v := .tuple #[.int .i64 0, .agg (EnV.zero.cells).toArray, .int .i64 0]) (by simp [results, Tryz.results90, asAddr, hL]) rfl (HK.out _ ((sz.perm [0, 1, 1]).dropN 3))

attribute [local go_sem ↓] execOp_stE in
set_option maxRecDepth 100000 in
set_option maxHeartbeats 8000000 in
theorem merge_old2 {e x : EnV} {q : RepV} (h : RepOK r) (hc : checkE e = 0) (hq : r.see e.ac e.az = q) (hx : tget q.tab e.key = x) (hb : thas q.tab e.key = true) (hn : newerB e x = false) (hd : x.dead = true) (hd2 : e.dead = false) (st : St W w (RepA A r :: R))
    (K : ∀ w', St W w' (RepA A q :: R) → post (.returned (.tuple #[.int .i64 0, .agg EnV.zero.cells.toArray, .int .i64 0])) w') :
    Calls Tryz.prog 90 #[.pointer (some ⟨A.p, 0, none⟩), .agg e.cells.toArray] w post := by
  have HK := hid K; clear K
  have hqo : RepOK q := by rw [← hq]; exact h.see _ _
  have HQO := hid hqo; have HQ := hid hq; have HB := hid hb; have HE := hid hx; have HC := hid hc
  have HL : Hid (q.tab.length ≤ 4096) := hid (by have := hqo.len; have := hqo.room; omega)
  have HN := hid hn; have HD := hid hd; have HD2 := hid hd2
  clear hn hd hd2
  clear hqo hq hb hx hc h
  go_enter Tryz.func90, Tryz.ntmps90
  go_wp2_with (first
    | (refine wpl_boxA (vs := e.cells) rfl (.tmp 1) rfl rfl st ?_; rintro T w1 s1)
    | (refine wpl_allocA rfl rfl zero_en s1 ?_; rintro V w2 s2; have s3 : St W w2 (RepA A r :: row T 0 e.cells :: row V 0 EnV.zero.cells :: R) := s2.perm [2, 1]; have gT := run_loadG agg_en (vs := e.cells) rfl (St.pick 1 s3).rowAll)
    | (go_at_call 50; refine check_c s3 ?_; rintro w4 s4; rw [HC.out]))
  try simp only [Act.put, List.setIfInBounds_toArray, List.set_cons_succ, List.set_cons_zero]
  have hN_s5 : Nonempty (Cls (fun w' => St W w' (RepA A r :: row T 0 e.cells :: row V 0 EnV.zero.cells :: R))) := Cls.inh s4
  have f5_s5 := fun s : Cls (fun w' => St W w' (RepA A r :: row T 0 e.cells :: row V 0 EnV.zero.cells :: R)) => (repLd s.h).1
  have gA_s5 := fun s : Cls (fun w' => St W w' (RepA A r :: row T 0 e.cells :: row V 0 EnV.zero.cells :: R)) => (enL (St.pick 1 s.h)).2.2.2.2.1
  refine wp_region_class_tail (fun w' => St W w' (RepA A r :: row T 0 e.cells :: row V 0 EnV.zero.cells :: R)) 6 (by kernel_rfl) (by kernel_rfl) (St.drew s4) ?_
  simp only [List.take_succ_cons, List.take_zero, List.drop_succ_cons, List.drop_zero]
  repeat (go_big_quiet_step ((fail)))
  clear hN_s5 f5_s5 gA_s5
  refine wpQuiet_nil ?_
  rintro ⟨w5, s5⟩
  dsimp only
  go_upto_region 5 with (go_at_call 116; refine see_c (St.pick 1 (RepA.open.1 s5)) ?_; rintro w6 s6; have s7 : St W w6 (RepA A q :: row T 0 e.cells :: row V 0 EnV.zero.cells :: R) := (by rw [← HQ.out]; exact see_open (s6.perm [1])))
  go_cut [8, 9] (fun p v wx => ∃ U, p = .pointer (some ⟨U, 0, none⟩) ∧ v = .bool true ∧ St W wx (RepA A q :: row U 0 x.cells :: row T 0 e.cells :: row V 0 EnV.zero.cells :: R))
  case first =>
    have u : St W w6.drew (RepA A q :: row T 0 e.cells :: row V 0 EnV.zero.cells :: R) := s7.drew
    have gA := And.intro (repLd u).2.1 (enL (St.pick 1 u)).1
    have u2 := (s7.alloc EnV.zero.cells.toArray 67).drew
    have gB := And.intro (repLd (St.pick 1 u2)).2.1 (enL (St.pick 2 u2)).1
    have gz := zero_en
    have hone : oneG x.cells 9 := ⟨rfl, env_one _⟩
    go_region_held3 (fun w' => (loadG 110 (.pointer (some ⟨A.p, 7, none⟩))).run Tryz.prog w' = .ok (.pointer (some ⟨A.tb, 0, none⟩)) w' ∧ (loadG 9 (.pointer (some ⟨T, 0, none⟩))).run Tryz.prog w' = .ok (.string e.key) w')
      (first
        | with_reducible exact gE
        | with_reducible exact gD
        | with_reducible exact gC
        | with_reducible exact gB
        | with_reducible exact gA)
      (first
        | (go_at_call 44; first
            | (refine getE_c HQO.out.tab HL.out (St.pick 2 (RepA.open.1 u)) ?_; rintro w5 t5; rw [HB.out, HE.out]; have s5 : St W w5 (RepA A q :: row T 0 e.cells :: row V 0 EnV.zero.cells :: R) := RepA.open.2 (t5.perm [1, 1]); have gC := And.intro (repLd s5).2.1 (enL (St.pick 1 s5)).1; have u5 := s5.alloc EnV.zero.cells.toArray 67; have gD := And.intro (repLd (St.pick 1 u5)).2.1 (enL (St.pick 2 u5)).1; have rB := run_storeG agg_en (b := w5.heap.size) (o := 0) (u5.roomG rfl) hone; have u6 := u5.setAll (vs := x.cells) rfl; have gE := And.intro (repLd (St.pick 1 u6)).2.1 (enL (St.pick 2 u6)).1)
            | (refine getE_c HQO.out.tab HL.out (St.pick 2 (RepA.open.1 (St.pick 1 u2))) ?_; rintro w5 t5; rw [HB.out, HE.out]; have s5 : St W w5 (row w6.heap.size 0 EnV.zero.cells :: RepA A q :: row T 0 e.cells :: row V 0 EnV.zero.cells :: R) := St.pick 1 (RepA.open.2 (t5.perm [1, 1])); have gC := And.intro (repLd (St.pick 1 s5)).2.1 (enL (St.pick 2 s5)).1; have rB := run_storeG agg_en (b := w6.heap.size) (o := 0) (s5.roomG rfl) hone; have u6 := s5.setAll (vs := x.cells) rfl; have gE := And.intro (repLd (St.pick 1 u6)).2.1 (enL (St.pick 2 u6)).1)))
    all_goals
      go_wp2_with fail
      go_meet
      case rel => exact ⟨_, rfl, rfl, St.pick 1 u6⟩
  case rest =>
  obtain ⟨U, rfl, rfl, s8⟩ := hcut
  have lT := run_loadG agg_en (vs := e.cells) rfl (St.pick 2 s8).rowAll
  have lU := run_loadG agg_en (vs := x.cells) rfl (St.pick 1 s8).rowAll
  go_wp2_with (first
    | (go_at_call 119; refine newer_c s8 ?_; rintro w9 s9; rw [HN.out]; have dx := (enL (St.pick 1 s9)).2.2.1; have de := (enL (St.pick 2 s9)).2.2.1; rw [HD.out] at dx; rw [HD2.out] at de)
    | (refine wpl_build rfl rfl (v := .agg EnV.zero.cells.toArray) (by kernel_rfl) ?_)
    | (refine wpl_storeA (vs := EnV.zero.cells) rfl (.tmp 5) (.tmp 62) (by rfl) agg_en (by rfl) (by rfl) rfl (env_one _) (St.pick 3 s9) rfl ?_; rintro wz sz))
  have hL := run_loadA agg_en (vs := EnV.zero.cells) rfl sz.rowAll
  exact bodyPost_ret (v := .tuple #[.int .i64 0, .agg (EnV.zero.cells).toArray, .int .i64 0]) (by simp [results, Tryz.results90, asAddr, hL]) rfl (HK.out _ ((sz.perm [0, 1, 1]).dropN 3))

attribute [local go_sem ↓] execOp_stE in
set_option maxRecDepth 100000 in
set_option maxHeartbeats 8000000 in
theorem merge_stay {e x : EnV} {q : RepV} (h : RepOK r) (hc : checkE e = 0) (hq : r.see e.ac e.az = q) (hx : tget q.tab e.key = x) (hb : thas q.tab e.key = true) (hn : newerB e x = false) (hd : x.dead = true) (hd2 : e.dead = true) (st : St W w (RepA A r :: R))
    (K : ∀ w', St W w' (RepA A (q.stay e) :: R) → post (.returned (.tuple #[.int .i64 0, .agg EnV.zero.cells.toArray, .int .i64 0])) w') :
    Calls Tryz.prog 90 #[.pointer (some ⟨A.p, 0, none⟩), .agg e.cells.toArray] w post := by
  have HK := hid K; clear K
  have hqo : RepOK q := by rw [← hq]; exact h.see _ _
  have HQO := hid hqo; have HQ := hid hq; have HB := hid hb; have HE := hid hx; have HC := hid hc
  have HL : Hid (q.tab.length ≤ 4096) := hid (by have := hqo.len; have := hqo.room; omega)
  have HG0 : Hid (e.dead = true → 0 ≤ e.age ∧ e.age ≤ 2147483647) := hid (dead_age hc)
  obtain ⟨g, hg⟩ : ∃ g, q.aged e x = g := ⟨_, rfl⟩
  have HG := hid hg
  have HK2 : Hid (∀ w', St W w' (RepA A { q with tab := tput q.tab e.key { x with age := g.age } } :: R) → post (.returned (.tuple #[.int .i64 0, .agg EnV.zero.cells.toArray, .int .i64 0])) w') := hid (by
    have := HK.out
    unfold RepV.stay at this
    rw [hx, hd, hd2] at this
    simp only [Bool.and_self, if_true] at this
    rw [← hg]; exact this)
  have HN := hid hn; have HD := hid hd; have HD2 := hid hd2
  have hfd : ∀ w, (Instr.field 67 (.agg g.cells.toArray) 6).run Tryz.prog w = .ok (.int .i64 g.age) w := fun w => by kernel_rfl
  clear hn hd hd2 hg HK
  clear hqo hq hb hx hc h
  go_enter Tryz.func90, Tryz.ntmps90
  go_wp2_with (first
    | (refine wpl_boxA (vs := e.cells) rfl (.tmp 1) rfl rfl st ?_; rintro T w1 s1)
    | (refine wpl_allocA rfl rfl zero_en s1 ?_; rintro V w2 s2; have s3 : St W w2 (RepA A r :: row T 0 e.cells :: row V 0 EnV.zero.cells :: R) := s2.perm [2, 1]; have gT := run_loadG agg_en (vs := e.cells) rfl (St.pick 1 s3).rowAll)
    | (go_at_call 50; refine check_c s3 ?_; rintro w4 s4; rw [HC.out]))
  try simp only [Act.put, List.setIfInBounds_toArray, List.set_cons_succ, List.set_cons_zero]
  have hN_s5 : Nonempty (Cls (fun w' => St W w' (RepA A r :: row T 0 e.cells :: row V 0 EnV.zero.cells :: R))) := Cls.inh s4
  have f5_s5 := fun s : Cls (fun w' => St W w' (RepA A r :: row T 0 e.cells :: row V 0 EnV.zero.cells :: R)) => (repLd s.h).1
  have gA_s5 := fun s : Cls (fun w' => St W w' (RepA A r :: row T 0 e.cells :: row V 0 EnV.zero.cells :: R)) => (enL (St.pick 1 s.h)).2.2.2.2.1
  refine wp_region_class_tail (fun w' => St W w' (RepA A r :: row T 0 e.cells :: row V 0 EnV.zero.cells :: R)) 6 (by kernel_rfl) (by kernel_rfl) (St.drew s4) ?_
  simp only [List.take_succ_cons, List.take_zero, List.drop_succ_cons, List.drop_zero]
  repeat (go_big_quiet_step ((fail)))
  clear hN_s5 f5_s5 gA_s5
  refine wpQuiet_nil ?_
  rintro ⟨w5, s5⟩
  dsimp only
  go_upto_region 5 with (go_at_call 116; refine see_c (St.pick 1 (RepA.open.1 s5)) ?_; rintro w6 s6; have s7 : St W w6 (RepA A q :: row T 0 e.cells :: row V 0 EnV.zero.cells :: R) := (by rw [← HQ.out]; exact see_open (s6.perm [1])))
  go_cut [8, 9] (fun p v wx => ∃ U, p = .pointer (some ⟨U, 0, none⟩) ∧ v = .bool true ∧ St W wx (RepA A q :: row U 0 x.cells :: row T 0 e.cells :: row V 0 EnV.zero.cells :: R))
  case first =>
    have u : St W w6.drew (RepA A q :: row T 0 e.cells :: row V 0 EnV.zero.cells :: R) := s7.drew
    have gA := And.intro (repLd u).2.1 (enL (St.pick 1 u)).1
    have u2 := (s7.alloc EnV.zero.cells.toArray 67).drew
    have gB := And.intro (repLd (St.pick 1 u2)).2.1 (enL (St.pick 2 u2)).1
    have gz := zero_en
    have hone : oneG x.cells 9 := ⟨rfl, env_one _⟩
    go_region_held3 (fun w' => (loadG 110 (.pointer (some ⟨A.p, 7, none⟩))).run Tryz.prog w' = .ok (.pointer (some ⟨A.tb, 0, none⟩)) w' ∧ (loadG 9 (.pointer (some ⟨T, 0, none⟩))).run Tryz.prog w' = .ok (.string e.key) w')
      (first
        | with_reducible exact gE
        | with_reducible exact gD
        | with_reducible exact gC
        | with_reducible exact gB
        | with_reducible exact gA)
      (first
        | (go_at_call 44; first
            | (refine getE_c HQO.out.tab HL.out (St.pick 2 (RepA.open.1 u)) ?_; rintro w5 t5; rw [HB.out, HE.out]; have s5 : St W w5 (RepA A q :: row T 0 e.cells :: row V 0 EnV.zero.cells :: R) := RepA.open.2 (t5.perm [1, 1]); have gC := And.intro (repLd s5).2.1 (enL (St.pick 1 s5)).1; have u5 := s5.alloc EnV.zero.cells.toArray 67; have gD := And.intro (repLd (St.pick 1 u5)).2.1 (enL (St.pick 2 u5)).1; have rB := run_storeG agg_en (b := w5.heap.size) (o := 0) (u5.roomG rfl) hone; have u6 := u5.setAll (vs := x.cells) rfl; have gE := And.intro (repLd (St.pick 1 u6)).2.1 (enL (St.pick 2 u6)).1)
            | (refine getE_c HQO.out.tab HL.out (St.pick 2 (RepA.open.1 (St.pick 1 u2))) ?_; rintro w5 t5; rw [HB.out, HE.out]; have s5 : St W w5 (row w6.heap.size 0 EnV.zero.cells :: RepA A q :: row T 0 e.cells :: row V 0 EnV.zero.cells :: R) := St.pick 1 (RepA.open.2 (t5.perm [1, 1])); have gC := And.intro (repLd (St.pick 1 s5)).2.1 (enL (St.pick 2 s5)).1; have rB := run_storeG agg_en (b := w6.heap.size) (o := 0) (s5.roomG rfl) hone; have u6 := s5.setAll (vs := x.cells) rfl; have gE := And.intro (repLd (St.pick 1 u6)).2.1 (enL (St.pick 2 u6)).1)))
    all_goals
      go_wp2_with fail
      go_meet
      case rel => exact ⟨_, rfl, rfl, St.pick 1 u6⟩
  case rest =>
  obtain ⟨U, rfl, rfl, s8⟩ := hcut
  have lT := run_loadG agg_en (vs := e.cells) rfl (St.pick 2 s8).rowAll
  have lU := run_loadG agg_en (vs := x.cells) rfl (St.pick 1 s8).rowAll
  go_wp2_with (first
    | (go_at_call 119; refine newer_c s8 ?_; rintro w9 s9; rw [HN.out]; have dx := (enL (St.pick 1 s9)).2.2.1; have de := (enL (St.pick 2 s9)).2.2.1; rw [HD.out] at dx; rw [HD2.out] at de; have mT := run_loadG agg_en (vs := e.cells) rfl (St.pick 2 s9).rowAll; have mU := run_loadG agg_en (vs := x.cells) rfl (St.pick 1 s9).rowAll)
    | (go_at_call 139; refine aged_c HG0.out s9 ?_; rintro wa sa; rw [HG.out]; obtain ⟨k8, f8, s8f⟩ := ageCell (St.pick 1 sa); have sb : St W _ (RepA A q :: row U 0 ({ x with age := g.age } : EnV).cells :: row T 0 e.cells :: row V 0 EnV.zero.cells :: R) := St.pick 1 (s8f g.age)))
  try simp only [Act.put, List.setIfInBounds_toArray, List.set_cons_succ, List.set_cons_zero]
  have hN_sc : Nonempty (Cls (fun w' => St W w' (RepA A q :: row U 0 ({ x with age := g.age } : EnV).cells :: row T 0 e.cells :: row V 0 EnV.zero.cells :: R))) := Cls.inh sb
  have f7_sc := fun s : Cls (fun w' => St W w' (RepA A q :: row U 0 ({ x with age := g.age } : EnV).cells :: row T 0 e.cells :: row V 0 EnV.zero.cells :: R)) => (repLd s.h).2.1
  have g0_sc := fun s : Cls (fun w' => St W w' (RepA A q :: row U 0 ({ x with age := g.age } : EnV).cells :: row T 0 e.cells :: row V 0 EnV.zero.cells :: R)) => (enL (St.pick 2 s.h)).1
  have gU_sc := fun s : Cls (fun w' => St W w' (RepA A q :: row U 0 ({ x with age := g.age } : EnV).cells :: row T 0 e.cells :: row V 0 EnV.zero.cells :: R)) => run_loadG agg_en (vs := ({ x with age := g.age } : EnV).cells) rfl (St.pick 1 s.h).rowAll
  refine wp_region_class_tail (fun w' => St W w' (RepA A q :: row U 0 ({ x with age := g.age } : EnV).cells :: row T 0 e.cells :: row V 0 EnV.zero.cells :: R)) 7 (by kernel_rfl) (by kernel_rfl) (St.drew sb) ?_
  simp only [List.take_succ_cons, List.take_zero, List.drop_succ_cons, List.drop_zero]
  repeat (go_big_quiet_step ((fail)))
  clear hN_sc f7_sc g0_sc gU_sc
  refine wpQuiet_nil ?_
  rintro ⟨wc, sc⟩
  dsimp only
  go_wp2_with (first
    | (go_at_call 140; refine putE_old HQO.out.tab HL.out HB.out (St.pick 2 (RepA.open.1 sc)) ?_; rintro wd sd; have se : St W wd (RepA A { q with tab := tput q.tab e.key { x with age := g.age } } :: row U 0 ({ x with age := g.age } : EnV).cells :: row T 0 e.cells :: row V 0 EnV.zero.cells :: R) := RepA.open.2 (sd.perm [1, 1]))
    | (refine wpl_build rfl rfl (v := .agg EnV.zero.cells.toArray) (by kernel_rfl) ?_)
    | (refine wpl_storeA (vs := EnV.zero.cells) rfl (.tmp 5) (.tmp 62) (by rfl) agg_en (by rfl) (by rfl) rfl (env_one _) (St.pick 3 se) rfl ?_; rintro wz sz))
  have hL := run_loadA agg_en (vs := EnV.zero.cells) rfl sz.rowAll
  exact bodyPost_ret (v := .tuple #[.int .i64 0, .agg (EnV.zero.cells).toArray, .int .i64 0]) (by simp [results, Tryz.results90, asAddr, hL]) rfl (HK2.out _ ((sz.perm [0, 1, 1]).dropN 3))

attribute [local go_sem ↓] execOp_stE in
set_option maxRecDepth 100000 in
set_option maxHeartbeats 8000000 in
theorem merge_aged_false {e x : EnV} {q : RepV} (h : RepOK r) (hc : checkE e = 0) (hq : r.see e.ac e.az = q) (hx : tget q.tab e.key = x) (hb : thas q.tab e.key = false)  (hd : e.dead = true) (h1 : decide (0 < q.t1) = true) (h2 : decide (q.t1 - 1 ≤ e.age) = true) (st : St W w (RepA A r :: R))
    (K : ∀ w', St W w' (RepA A q :: R) → post (.returned (.tuple #[.int .i64 0, .agg EnV.zero.cells.toArray, .int .i64 0])) w') :
    Calls Tryz.prog 90 #[.pointer (some ⟨A.p, 0, none⟩), .agg e.cells.toArray] w post := by
  have HK := hid K; clear K
  have hqo : RepOK q := by rw [← hq]; exact h.see _ _
  have HQO := hid hqo; have HQ := hid hq; have HB := hid hb; have HE := hid hx; have HC := hid hc
  have HL : Hid (q.tab.length ≤ 4096) := hid (by have := hqo.len; have := hqo.room; omega)
  have HD := hid hd
  clear hd
  have hw : IntKind.i64.wrap (q.t1 - 1) = q.t1 - 1 := IntWalk.i64_in _ (by have := hqo.t1; omega)
  clear hqo hq hb hx hc h
  go_enter Tryz.func90, Tryz.ntmps90
  go_wp2_with (first
    | (refine wpl_boxA (vs := e.cells) rfl (.tmp 1) rfl rfl st ?_; rintro T w1 s1)
    | (refine wpl_allocA rfl rfl zero_en s1 ?_; rintro V w2 s2; have s3 : St W w2 (RepA A r :: row T 0 e.cells :: row V 0 EnV.zero.cells :: R) := s2.perm [2, 1]; have gT := run_loadG agg_en (vs := e.cells) rfl (St.pick 1 s3).rowAll)
    | (go_at_call 50; refine check_c s3 ?_; rintro w4 s4; rw [HC.out]))
  try simp only [Act.put, List.setIfInBounds_toArray, List.set_cons_succ, List.set_cons_zero]
  have hN_s5 : Nonempty (Cls (fun w' => St W w' (RepA A r :: row T 0 e.cells :: row V 0 EnV.zero.cells :: R))) := Cls.inh s4
  have f5_s5 := fun s : Cls (fun w' => St W w' (RepA A r :: row T 0 e.cells :: row V 0 EnV.zero.cells :: R)) => (repLd s.h).1
  have gA_s5 := fun s : Cls (fun w' => St W w' (RepA A r :: row T 0 e.cells :: row V 0 EnV.zero.cells :: R)) => (enL (St.pick 1 s.h)).2.2.2.2.1
  refine wp_region_class_tail (fun w' => St W w' (RepA A r :: row T 0 e.cells :: row V 0 EnV.zero.cells :: R)) 6 (by kernel_rfl) (by kernel_rfl) (St.drew s4) ?_
  simp only [List.take_succ_cons, List.take_zero, List.drop_succ_cons, List.drop_zero]
  repeat (go_big_quiet_step ((fail)))
  clear hN_s5 f5_s5 gA_s5
  refine wpQuiet_nil ?_
  rintro ⟨w5, s5⟩
  dsimp only
  go_upto_region 5 with (go_at_call 116; refine see_c (St.pick 1 (RepA.open.1 s5)) ?_; rintro w6 s6; have s7 : St W w6 (RepA A q :: row T 0 e.cells :: row V 0 EnV.zero.cells :: R) := (by rw [← HQ.out]; exact see_open (s6.perm [1])))
  go_cut [8, 9] (fun p v wx => ∃ U, p = .pointer (some ⟨U, 0, none⟩) ∧ v = .bool false ∧ St W wx (RepA A q :: row U 0 x.cells :: row T 0 e.cells :: row V 0 EnV.zero.cells :: R))
  case first =>
    have u : St W w6.drew (RepA A q :: row T 0 e.cells :: row V 0 EnV.zero.cells :: R) := s7.drew
    have gA := And.intro (repLd u).2.1 (enL (St.pick 1 u)).1
    have u2 := (s7.alloc EnV.zero.cells.toArray 67).drew
    have gB := And.intro (repLd (St.pick 1 u2)).2.1 (enL (St.pick 2 u2)).1
    have gz := zero_en
    have hone : oneG x.cells 9 := ⟨rfl, env_one _⟩
    go_region_held3 (fun w' => (loadG 110 (.pointer (some ⟨A.p, 7, none⟩))).run Tryz.prog w' = .ok (.pointer (some ⟨A.tb, 0, none⟩)) w' ∧ (loadG 9 (.pointer (some ⟨T, 0, none⟩))).run Tryz.prog w' = .ok (.string e.key) w')
      (first
        | with_reducible exact gE
        | with_reducible exact gD
        | with_reducible exact gC
        | with_reducible exact gB
        | with_reducible exact gA)
      (first
        | (go_at_call 44; first
            | (refine getE_c HQO.out.tab HL.out (St.pick 2 (RepA.open.1 u)) ?_; rintro w5 t5; rw [HB.out, HE.out]; have s5 : St W w5 (RepA A q :: row T 0 e.cells :: row V 0 EnV.zero.cells :: R) := RepA.open.2 (t5.perm [1, 1]); have gC := And.intro (repLd s5).2.1 (enL (St.pick 1 s5)).1; have u5 := s5.alloc EnV.zero.cells.toArray 67; have gD := And.intro (repLd (St.pick 1 u5)).2.1 (enL (St.pick 2 u5)).1; have rB := run_storeG agg_en (b := w5.heap.size) (o := 0) (u5.roomG rfl) hone; have u6 := u5.setAll (vs := x.cells) rfl; have gE := And.intro (repLd (St.pick 1 u6)).2.1 (enL (St.pick 2 u6)).1)
            | (refine getE_c HQO.out.tab HL.out (St.pick 2 (RepA.open.1 (St.pick 1 u2))) ?_; rintro w5 t5; rw [HB.out, HE.out]; have s5 : St W w5 (row w6.heap.size 0 EnV.zero.cells :: RepA A q :: row T 0 e.cells :: row V 0 EnV.zero.cells :: R) := St.pick 1 (RepA.open.2 (t5.perm [1, 1])); have gC := And.intro (repLd (St.pick 1 s5)).2.1 (enL (St.pick 2 s5)).1; have rB := run_storeG agg_en (b := w6.heap.size) (o := 0) (s5.roomG rfl) hone; have u6 := s5.setAll (vs := x.cells) rfl; have gE := And.intro (repLd (St.pick 1 u6)).2.1 (enL (St.pick 2 u6)).1)))
    all_goals
      go_wp2_with fail
      go_meet
      case rel => exact ⟨_, rfl, rfl, St.pick 1 u6⟩
  case rest =>
  obtain ⟨U, rfl, rfl, s8⟩ := hcut
  have s9 := s8
  go_upto_region 11 with (fail)
  try simp only [Act.put, List.setIfInBounds_toArray, List.set_cons_succ, List.set_cons_zero]
  have hN : Nonempty (Cls (fun w' => St W w' (RepA A q :: row U 0 x.cells :: row T 0 e.cells :: row V 0 EnV.zero.cells :: R))) := Cls.inh s9
  have fd := fun s : Cls (fun w' => St W w' (RepA A q :: row U 0 x.cells :: row T 0 e.cells :: row V 0 EnV.zero.cells :: R)) => (by have := (enL (St.pick 2 s.h)).2.2.1; rw [HD.out] at this; exact this : (loadG 4 (.pointer (some ⟨T, 2, none⟩))).run Tryz.prog s.w = .ok (.bool true) s.w)
  have ft := fun s : Cls (fun w' => St W w' (RepA A q :: row U 0 x.cells :: row T 0 e.cells :: row V 0 EnV.zero.cells :: R)) => repT1 s.h
  have fa := fun s : Cls (fun w' => St W w' (RepA A q :: row U 0 x.cells :: row T 0 e.cells :: row V 0 EnV.zero.cells :: R)) => (enL (St.pick 2 s.h)).2.2.2.2.2.2.1
  refine wp_region_class (fun w' => St W w' (RepA A q :: row U 0 x.cells :: row T 0 e.cells :: row V 0 EnV.zero.cells :: R)) (by kernel_rfl) (by kernel_rfl) s9.drew ?_
  repeat (go_big_quiet_step (fail))
  clear hN fd ft fa
  refine wpQuiet_nil ?_
  rintro ⟨wb, sb⟩
  dsimp only
  go_wp2_with (first
    | (refine wpl_build rfl rfl (v := .agg EnV.zero.cells.toArray) (by kernel_rfl) ?_)
    | (refine wpl_storeA (vs := EnV.zero.cells) rfl (.tmp 5) (.tmp 85) (by rfl) agg_en (by rfl) (by rfl) rfl (env_one _) (St.pick 3 sb) rfl ?_; rintro wz sz))
  have hL := run_loadA agg_en (vs := EnV.zero.cells) rfl sz.rowAll
  exact bodyPost_ret (v := .tuple #[.int .i64 0, .agg (EnV.zero.cells).toArray, .int .i64 0]) (by simp [results, Tryz.results90, asAddr, hL]) rfl (HK.out _ ((sz.perm [0, 1, 1]).dropN 3))

attribute [local go_sem ↓] execOp_stE in
set_option maxRecDepth 100000 in
set_option maxHeartbeats 8000000 in
theorem merge_aged_true {e x : EnV} {q : RepV} (h : RepOK r) (hc : checkE e = 0) (hq : r.see e.ac e.az = q) (hx : tget q.tab e.key = x) (hb : thas q.tab e.key = true) (hn : newerB e x = true) (hd : e.dead = true) (h1 : decide (0 < q.t1) = true) (h2 : decide (q.t1 - 1 ≤ e.age) = true) (st : St W w (RepA A r :: R))
    (K : ∀ w', St W w' (RepA A q :: R) → post (.returned (.tuple #[.int .i64 0, .agg EnV.zero.cells.toArray, .int .i64 0])) w') :
    Calls Tryz.prog 90 #[.pointer (some ⟨A.p, 0, none⟩), .agg e.cells.toArray] w post := by
  have HK := hid K; clear K
  have hqo : RepOK q := by rw [← hq]; exact h.see _ _
  have HQO := hid hqo; have HQ := hid hq; have HB := hid hb; have HE := hid hx; have HC := hid hc
  have HL : Hid (q.tab.length ≤ 4096) := hid (by have := hqo.len; have := hqo.room; omega)
  have HN := hid hn
  clear hn
  have HD := hid hd
  clear hd
  have hw : IntKind.i64.wrap (q.t1 - 1) = q.t1 - 1 := IntWalk.i64_in _ (by have := hqo.t1; omega)
  clear hqo hq hb hx hc h
  go_enter Tryz.func90, Tryz.ntmps90
  go_wp2_with (first
    | (refine wpl_boxA (vs := e.cells) rfl (.tmp 1) rfl rfl st ?_; rintro T w1 s1)
    | (refine wpl_allocA rfl rfl zero_en s1 ?_; rintro V w2 s2; have s3 : St W w2 (RepA A r :: row T 0 e.cells :: row V 0 EnV.zero.cells :: R) := s2.perm [2, 1]; have gT := run_loadG agg_en (vs := e.cells) rfl (St.pick 1 s3).rowAll)
    | (go_at_call 50; refine check_c s3 ?_; rintro w4 s4; rw [HC.out]))
  try simp only [Act.put, List.setIfInBounds_toArray, List.set_cons_succ, List.set_cons_zero]
  have hN_s5 : Nonempty (Cls (fun w' => St W w' (RepA A r :: row T 0 e.cells :: row V 0 EnV.zero.cells :: R))) := Cls.inh s4
  have f5_s5 := fun s : Cls (fun w' => St W w' (RepA A r :: row T 0 e.cells :: row V 0 EnV.zero.cells :: R)) => (repLd s.h).1
  have gA_s5 := fun s : Cls (fun w' => St W w' (RepA A r :: row T 0 e.cells :: row V 0 EnV.zero.cells :: R)) => (enL (St.pick 1 s.h)).2.2.2.2.1
  refine wp_region_class_tail (fun w' => St W w' (RepA A r :: row T 0 e.cells :: row V 0 EnV.zero.cells :: R)) 6 (by kernel_rfl) (by kernel_rfl) (St.drew s4) ?_
  simp only [List.take_succ_cons, List.take_zero, List.drop_succ_cons, List.drop_zero]
  repeat (go_big_quiet_step ((fail)))
  clear hN_s5 f5_s5 gA_s5
  refine wpQuiet_nil ?_
  rintro ⟨w5, s5⟩
  dsimp only
  go_upto_region 5 with (go_at_call 116; refine see_c (St.pick 1 (RepA.open.1 s5)) ?_; rintro w6 s6; have s7 : St W w6 (RepA A q :: row T 0 e.cells :: row V 0 EnV.zero.cells :: R) := (by rw [← HQ.out]; exact see_open (s6.perm [1])))
  go_cut [8, 9] (fun p v wx => ∃ U, p = .pointer (some ⟨U, 0, none⟩) ∧ v = .bool true ∧ St W wx (RepA A q :: row U 0 x.cells :: row T 0 e.cells :: row V 0 EnV.zero.cells :: R))
  case first =>
    have u : St W w6.drew (RepA A q :: row T 0 e.cells :: row V 0 EnV.zero.cells :: R) := s7.drew
    have gA := And.intro (repLd u).2.1 (enL (St.pick 1 u)).1
    have u2 := (s7.alloc EnV.zero.cells.toArray 67).drew
    have gB := And.intro (repLd (St.pick 1 u2)).2.1 (enL (St.pick 2 u2)).1
    have gz := zero_en
    have hone : oneG x.cells 9 := ⟨rfl, env_one _⟩
    go_region_held3 (fun w' => (loadG 110 (.pointer (some ⟨A.p, 7, none⟩))).run Tryz.prog w' = .ok (.pointer (some ⟨A.tb, 0, none⟩)) w' ∧ (loadG 9 (.pointer (some ⟨T, 0, none⟩))).run Tryz.prog w' = .ok (.string e.key) w')
      (first
        | with_reducible exact gE
        | with_reducible exact gD
        | with_reducible exact gC
        | with_reducible exact gB
        | with_reducible exact gA)
      (first
        | (go_at_call 44; first
            | (refine getE_c HQO.out.tab HL.out (St.pick 2 (RepA.open.1 u)) ?_; rintro w5 t5; rw [HB.out, HE.out]; have s5 : St W w5 (RepA A q :: row T 0 e.cells :: row V 0 EnV.zero.cells :: R) := RepA.open.2 (t5.perm [1, 1]); have gC := And.intro (repLd s5).2.1 (enL (St.pick 1 s5)).1; have u5 := s5.alloc EnV.zero.cells.toArray 67; have gD := And.intro (repLd (St.pick 1 u5)).2.1 (enL (St.pick 2 u5)).1; have rB := run_storeG agg_en (b := w5.heap.size) (o := 0) (u5.roomG rfl) hone; have u6 := u5.setAll (vs := x.cells) rfl; have gE := And.intro (repLd (St.pick 1 u6)).2.1 (enL (St.pick 2 u6)).1)
            | (refine getE_c HQO.out.tab HL.out (St.pick 2 (RepA.open.1 (St.pick 1 u2))) ?_; rintro w5 t5; rw [HB.out, HE.out]; have s5 : St W w5 (row w6.heap.size 0 EnV.zero.cells :: RepA A q :: row T 0 e.cells :: row V 0 EnV.zero.cells :: R) := St.pick 1 (RepA.open.2 (t5.perm [1, 1])); have gC := And.intro (repLd (St.pick 1 s5)).2.1 (enL (St.pick 2 s5)).1; have rB := run_storeG agg_en (b := w6.heap.size) (o := 0) (s5.roomG rfl) hone; have u6 := s5.setAll (vs := x.cells) rfl; have gE := And.intro (repLd (St.pick 1 u6)).2.1 (enL (St.pick 2 u6)).1)))
    all_goals
      go_wp2_with fail
      go_meet
      case rel => exact ⟨_, rfl, rfl, St.pick 1 u6⟩
  case rest =>
  obtain ⟨U, rfl, rfl, s8⟩ := hcut
  have lT := run_loadG agg_en (vs := e.cells) rfl (St.pick 2 s8).rowAll
  have lU := run_loadG agg_en (vs := x.cells) rfl (St.pick 1 s8).rowAll
  go_upto_region 11 with (go_at_call 119; refine newer_c s8 ?_; rintro w9 s9; rw [HN.out])
  try simp only [Act.put, List.setIfInBounds_toArray, List.set_cons_succ, List.set_cons_zero]
  have hN : Nonempty (Cls (fun w' => St W w' (RepA A q :: row U 0 x.cells :: row T 0 e.cells :: row V 0 EnV.zero.cells :: R))) := Cls.inh s9
  have fd := fun s : Cls (fun w' => St W w' (RepA A q :: row U 0 x.cells :: row T 0 e.cells :: row V 0 EnV.zero.cells :: R)) => (by have := (enL (St.pick 2 s.h)).2.2.1; rw [HD.out] at this; exact this : (loadG 4 (.pointer (some ⟨T, 2, none⟩))).run Tryz.prog s.w = .ok (.bool true) s.w)
  have ft := fun s : Cls (fun w' => St W w' (RepA A q :: row U 0 x.cells :: row T 0 e.cells :: row V 0 EnV.zero.cells :: R)) => repT1 s.h
  have fa := fun s : Cls (fun w' => St W w' (RepA A q :: row U 0 x.cells :: row T 0 e.cells :: row V 0 EnV.zero.cells :: R)) => (enL (St.pick 2 s.h)).2.2.2.2.2.2.1
  refine wp_region_class (fun w' => St W w' (RepA A q :: row U 0 x.cells :: row T 0 e.cells :: row V 0 EnV.zero.cells :: R)) (by kernel_rfl) (by kernel_rfl) s9.drew ?_
  repeat (go_big_quiet_step (fail))
  clear hN fd ft fa
  refine wpQuiet_nil ?_
  rintro ⟨wb, sb⟩
  dsimp only
  go_wp2_with (first
    | (refine wpl_build rfl rfl (v := .agg EnV.zero.cells.toArray) (by kernel_rfl) ?_)
    | (refine wpl_storeA (vs := EnV.zero.cells) rfl (.tmp 5) (.tmp 85) (by rfl) agg_en (by rfl) (by rfl) rfl (env_one _) (St.pick 3 sb) rfl ?_; rintro wz sz))
  have hL := run_loadA agg_en (vs := EnV.zero.cells) rfl sz.rowAll
  exact bodyPost_ret (v := .tuple #[.int .i64 0, .agg (EnV.zero.cells).toArray, .int .i64 0]) (by simp [results, Tryz.results90, asAddr, hL]) rfl (HK.out _ ((sz.perm [0, 1, 1]).dropN 3))

attribute [local go_sem ↓] execOp_stE in
set_option maxRecDepth 100000 in
set_option maxHeartbeats 8000000 in
theorem merge_full_false {e x : EnV} {q : RepV} (h : RepOK r) (hc : checkE e = 0) (hq : r.see e.ac e.az = q) (hx : tget q.tab e.key = x) (hb : thas q.tab e.key = false)  (hp : (e.dead && (decide (0 < q.t1) && decide (q.t1 - 1 ≤ e.age))) = false) (hr : q.roomB e.key = false) (st : St W w (RepA A r :: R))
    (K : ∀ w', St W w' (RepA A q :: R) → post (.returned (.tuple #[.int .i64 0, .agg EnV.zero.cells.toArray, .int .i64 7])) w') :
    Calls Tryz.prog 90 #[.pointer (some ⟨A.p, 0, none⟩), .agg e.cells.toArray] w post := by
  have HK := hid K; clear K
  have hqo : RepOK q := by rw [← hq]; exact h.see _ _
  have HQO := hid hqo; have HQ := hid hq; have HB := hid hb; have HE := hid hx; have HC := hid hc
  have HL : Hid (q.tab.length ≤ 4096) := hid (by have := hqo.len; have := hqo.room; omega)
  have hw : IntKind.i64.wrap (q.t1 - 1) = q.t1 - 1 := IntWalk.i64_in _ (by have := hqo.t1; omega)
  have HRM := hid hr
  clear hr
  obtain ⟨d, hd⟩ : ∃ d, e.dead = d := ⟨_, rfl⟩
  obtain ⟨t, ht⟩ : ∃ t, decide (0 < q.t1) = t := ⟨_, rfl⟩
  obtain ⟨a, ha⟩ : ∃ a, decide (q.t1 - 1 ≤ e.age) = a := ⟨_, rfl⟩
  rw [hd, ht, ha] at hp
  have HPP := hid hp; have HD := hid hd
  clear hp hd
  clear hqo hq hb hx hc h
  go_enter Tryz.func90, Tryz.ntmps90
  go_wp2_with (first
    | (refine wpl_boxA (vs := e.cells) rfl (.tmp 1) rfl rfl st ?_; rintro T w1 s1)
    | (refine wpl_allocA rfl rfl zero_en s1 ?_; rintro V w2 s2; have s3 : St W w2 (RepA A r :: row T 0 e.cells :: row V 0 EnV.zero.cells :: R) := s2.perm [2, 1]; have gT := run_loadG agg_en (vs := e.cells) rfl (St.pick 1 s3).rowAll)
    | (go_at_call 50; refine check_c s3 ?_; rintro w4 s4; rw [HC.out]))
  try simp only [Act.put, List.setIfInBounds_toArray, List.set_cons_succ, List.set_cons_zero]
  have hN_s5 : Nonempty (Cls (fun w' => St W w' (RepA A r :: row T 0 e.cells :: row V 0 EnV.zero.cells :: R))) := Cls.inh s4
  have f5_s5 := fun s : Cls (fun w' => St W w' (RepA A r :: row T 0 e.cells :: row V 0 EnV.zero.cells :: R)) => (repLd s.h).1
  have gA_s5 := fun s : Cls (fun w' => St W w' (RepA A r :: row T 0 e.cells :: row V 0 EnV.zero.cells :: R)) => (enL (St.pick 1 s.h)).2.2.2.2.1
  refine wp_region_class_tail (fun w' => St W w' (RepA A r :: row T 0 e.cells :: row V 0 EnV.zero.cells :: R)) 6 (by kernel_rfl) (by kernel_rfl) (St.drew s4) ?_
  simp only [List.take_succ_cons, List.take_zero, List.drop_succ_cons, List.drop_zero]
  repeat (go_big_quiet_step ((fail)))
  clear hN_s5 f5_s5 gA_s5
  refine wpQuiet_nil ?_
  rintro ⟨w5, s5⟩
  dsimp only
  go_upto_region 5 with (go_at_call 116; refine see_c (St.pick 1 (RepA.open.1 s5)) ?_; rintro w6 s6; have s7 : St W w6 (RepA A q :: row T 0 e.cells :: row V 0 EnV.zero.cells :: R) := (by rw [← HQ.out]; exact see_open (s6.perm [1])))
  go_cut [8, 9] (fun p v wx => ∃ U, p = .pointer (some ⟨U, 0, none⟩) ∧ v = .bool false ∧ St W wx (RepA A q :: row U 0 x.cells :: row T 0 e.cells :: row V 0 EnV.zero.cells :: R))
  case first =>
    have u : St W w6.drew (RepA A q :: row T 0 e.cells :: row V 0 EnV.zero.cells :: R) := s7.drew
    have gA := And.intro (repLd u).2.1 (enL (St.pick 1 u)).1
    have u2 := (s7.alloc EnV.zero.cells.toArray 67).drew
    have gB := And.intro (repLd (St.pick 1 u2)).2.1 (enL (St.pick 2 u2)).1
    have gz := zero_en
    have hone : oneG x.cells 9 := ⟨rfl, env_one _⟩
    go_region_held3 (fun w' => (loadG 110 (.pointer (some ⟨A.p, 7, none⟩))).run Tryz.prog w' = .ok (.pointer (some ⟨A.tb, 0, none⟩)) w' ∧ (loadG 9 (.pointer (some ⟨T, 0, none⟩))).run Tryz.prog w' = .ok (.string e.key) w')
      (first
        | with_reducible exact gE
        | with_reducible exact gD
        | with_reducible exact gC
        | with_reducible exact gB
        | with_reducible exact gA)
      (first
        | (go_at_call 44; first
            | (refine getE_c HQO.out.tab HL.out (St.pick 2 (RepA.open.1 u)) ?_; rintro w5 t5; rw [HB.out, HE.out]; have s5 : St W w5 (RepA A q :: row T 0 e.cells :: row V 0 EnV.zero.cells :: R) := RepA.open.2 (t5.perm [1, 1]); have gC := And.intro (repLd s5).2.1 (enL (St.pick 1 s5)).1; have u5 := s5.alloc EnV.zero.cells.toArray 67; have gD := And.intro (repLd (St.pick 1 u5)).2.1 (enL (St.pick 2 u5)).1; have rB := run_storeG agg_en (b := w5.heap.size) (o := 0) (u5.roomG rfl) hone; have u6 := u5.setAll (vs := x.cells) rfl; have gE := And.intro (repLd (St.pick 1 u6)).2.1 (enL (St.pick 2 u6)).1)
            | (refine getE_c HQO.out.tab HL.out (St.pick 2 (RepA.open.1 (St.pick 1 u2))) ?_; rintro w5 t5; rw [HB.out, HE.out]; have s5 : St W w5 (row w6.heap.size 0 EnV.zero.cells :: RepA A q :: row T 0 e.cells :: row V 0 EnV.zero.cells :: R) := St.pick 1 (RepA.open.2 (t5.perm [1, 1])); have gC := And.intro (repLd (St.pick 1 s5)).2.1 (enL (St.pick 2 s5)).1; have rB := run_storeG agg_en (b := w6.heap.size) (o := 0) (s5.roomG rfl) hone; have u6 := s5.setAll (vs := x.cells) rfl; have gE := And.intro (repLd (St.pick 1 u6)).2.1 (enL (St.pick 2 u6)).1)))
    all_goals
      go_wp2_with fail
      go_meet
      case rel => exact ⟨_, rfl, rfl, St.pick 1 u6⟩
  case rest =>
  obtain ⟨U, rfl, rfl, s8⟩ := hcut
  have s9 := s8
  go_upto_region 11 with (fail)
  go_cut [63] (fun v wx => v = .bool false ∧ St W wx (RepA A q :: row U 0 x.cells :: row T 0 e.cells :: row V 0 EnV.zero.cells :: R))
  case first =>
    cases d with
    | false =>
      try simp only [Act.put, List.setIfInBounds_toArray, List.set_cons_succ, List.set_cons_zero]
      have hN : Nonempty (Cls (fun w' => St W w' (RepA A q :: row U 0 x.cells :: row T 0 e.cells :: row V 0 EnV.zero.cells :: R))) := Cls.inh s9
      have fd := fun s : Cls (fun w' => St W w' (RepA A q :: row U 0 x.cells :: row T 0 e.cells :: row V 0 EnV.zero.cells :: R)) => (by have := (enL (St.pick 2 s.h)).2.2.1; rw [HD.out] at this; exact this : (loadG 4 (.pointer (some ⟨T, 2, none⟩))).run Tryz.prog s.w = .ok (.bool false) s.w)
      have ft := fun s : Cls (fun w' => St W w' (RepA A q :: row U 0 x.cells :: row T 0 e.cells :: row V 0 EnV.zero.cells :: R)) => repT1 s.h
      have fa := fun s : Cls (fun w' => St W w' (RepA A q :: row U 0 x.cells :: row T 0 e.cells :: row V 0 EnV.zero.cells :: R)) => (enL (St.pick 2 s.h)).2.2.2.2.2.2.1
      refine wp_region_class (fun w' => St W w' (RepA A q :: row U 0 x.cells :: row T 0 e.cells :: row V 0 EnV.zero.cells :: R)) (by kernel_rfl) (by kernel_rfl) s9.drew ?_
      repeat (go_big_quiet_step (fail))
      clear hN fd ft fa
      refine wpQuiet_nil ?_
      rintro ⟨wb, sb⟩
      dsimp only
      go_wp2_with fail
      go_meet
      case rel => exact ⟨rfl, sb⟩
    | true =>
      cases t with
      | false =>
        try simp only [Act.put, List.setIfInBounds_toArray, List.set_cons_succ, List.set_cons_zero]
        have hN : Nonempty (Cls (fun w' => St W w' (RepA A q :: row U 0 x.cells :: row T 0 e.cells :: row V 0 EnV.zero.cells :: R))) := Cls.inh s9
        have fd := fun s : Cls (fun w' => St W w' (RepA A q :: row U 0 x.cells :: row T 0 e.cells :: row V 0 EnV.zero.cells :: R)) => (by have := (enL (St.pick 2 s.h)).2.2.1; rw [HD.out] at this; exact this : (loadG 4 (.pointer (some ⟨T, 2, none⟩))).run Tryz.prog s.w = .ok (.bool true) s.w)
        have ft := fun s : Cls (fun w' => St W w' (RepA A q :: row U 0 x.cells :: row T 0 e.cells :: row V 0 EnV.zero.cells :: R)) => repT1 s.h
        have fa := fun s : Cls (fun w' => St W w' (RepA A q :: row U 0 x.cells :: row T 0 e.cells :: row V 0 EnV.zero.cells :: R)) => (enL (St.pick 2 s.h)).2.2.2.2.2.2.1
        refine wp_region_class (fun w' => St W w' (RepA A q :: row U 0 x.cells :: row T 0 e.cells :: row V 0 EnV.zero.cells :: R)) (by kernel_rfl) (by kernel_rfl) s9.drew ?_
        repeat (go_big_quiet_step (fail))
        clear hN fd ft fa
        refine wpQuiet_nil ?_
        rintro ⟨wb, sb⟩
        dsimp only
        go_wp2_with fail
        go_meet
        case rel => exact ⟨rfl, sb⟩
      | true =>
        have hz : a = false := by have := HPP.out; simpa using this
        subst hz
        try simp only [Act.put, List.setIfInBounds_toArray, List.set_cons_succ, List.set_cons_zero]
        have hN : Nonempty (Cls (fun w' => St W w' (RepA A q :: row U 0 x.cells :: row T 0 e.cells :: row V 0 EnV.zero.cells :: R))) := Cls.inh s9
        have fd := fun s : Cls (fun w' => St W w' (RepA A q :: row U 0 x.cells :: row T 0 e.cells :: row V 0 EnV.zero.cells :: R)) => (by have := (enL (St.pick 2 s.h)).2.2.1; rw [HD.out] at this; exact this : (loadG 4 (.pointer (some ⟨T, 2, none⟩))).run Tryz.prog s.w = .ok (.bool true) s.w)
        have ft := fun s : Cls (fun w' => St W w' (RepA A q :: row U 0 x.cells :: row T 0 e.cells :: row V 0 EnV.zero.cells :: R)) => repT1 s.h
        have fa := fun s : Cls (fun w' => St W w' (RepA A q :: row U 0 x.cells :: row T 0 e.cells :: row V 0 EnV.zero.cells :: R)) => (enL (St.pick 2 s.h)).2.2.2.2.2.2.1
        refine wp_region_class (fun w' => St W w' (RepA A q :: row U 0 x.cells :: row T 0 e.cells :: row V 0 EnV.zero.cells :: R)) (by kernel_rfl) (by kernel_rfl) s9.drew ?_
        repeat (go_big_quiet_step (fail))
        clear hN fd ft fa
        refine wpQuiet_nil ?_
        rintro ⟨wb, sb⟩
        dsimp only
        go_wp2_with fail
        go_meet
        case rel => exact ⟨rfl, sb⟩
  case rest =>
  obtain ⟨rfl, sb⟩ := hcut
  have lk := (enL (St.pick 2 sb)).1
  go_wp2_with (first
    | (go_at_call 96; refine room_c HQO.out sb ?_; rintro wc sc; rw [HRM.out])
    | (refine wpl_build rfl rfl (v := .agg EnV.zero.cells.toArray) (by kernel_rfl) ?_)
    | (refine wpl_storeA (vs := EnV.zero.cells) rfl (.tmp 5) (.tmp 92) (by rfl) agg_en (by rfl) (by rfl) rfl (env_one _) (St.pick 3 sc) rfl ?_; rintro wz sz))
  have hL := run_loadA agg_en (vs := EnV.zero.cells) rfl sz.rowAll
  exact bodyPost_ret (v := .tuple #[.int .i64 0, .agg (EnV.zero.cells).toArray, .int .i64 7]) (by simp [results, Tryz.results90, asAddr, hL]) rfl (HK.out _ ((sz.perm [0, 1, 1]).dropN 3))

attribute [local go_sem ↓] execOp_stE in
set_option maxRecDepth 100000 in
set_option maxHeartbeats 8000000 in
theorem merge_full_true {e x : EnV} {q : RepV} (h : RepOK r) (hc : checkE e = 0) (hq : r.see e.ac e.az = q) (hx : tget q.tab e.key = x) (hb : thas q.tab e.key = true) (hn : newerB e x = true) (hp : (e.dead && (decide (0 < q.t1) && decide (q.t1 - 1 ≤ e.age))) = false) (hr : q.roomB e.key = false) (st : St W w (RepA A r :: R))
    (K : ∀ w', St W w' (RepA A q :: R) → post (.returned (.tuple #[.int .i64 0, .agg EnV.zero.cells.toArray, .int .i64 7])) w') :
    Calls Tryz.prog 90 #[.pointer (some ⟨A.p, 0, none⟩), .agg e.cells.toArray] w post := by
  have HK := hid K; clear K
  have hqo : RepOK q := by rw [← hq]; exact h.see _ _
  have HQO := hid hqo; have HQ := hid hq; have HB := hid hb; have HE := hid hx; have HC := hid hc
  have HL : Hid (q.tab.length ≤ 4096) := hid (by have := hqo.len; have := hqo.room; omega)
  have HN := hid hn
  clear hn
  have hw : IntKind.i64.wrap (q.t1 - 1) = q.t1 - 1 := IntWalk.i64_in _ (by have := hqo.t1; omega)
  have HRM := hid hr
  clear hr
  obtain ⟨d, hd⟩ : ∃ d, e.dead = d := ⟨_, rfl⟩
  obtain ⟨t, ht⟩ : ∃ t, decide (0 < q.t1) = t := ⟨_, rfl⟩
  obtain ⟨a, ha⟩ : ∃ a, decide (q.t1 - 1 ≤ e.age) = a := ⟨_, rfl⟩
  rw [hd, ht, ha] at hp
  have HPP := hid hp; have HD := hid hd
  clear hp hd
  clear hqo hq hb hx hc h
  go_enter Tryz.func90, Tryz.ntmps90
  go_wp2_with (first
    | (refine wpl_boxA (vs := e.cells) rfl (.tmp 1) rfl rfl st ?_; rintro T w1 s1)
    | (refine wpl_allocA rfl rfl zero_en s1 ?_; rintro V w2 s2; have s3 : St W w2 (RepA A r :: row T 0 e.cells :: row V 0 EnV.zero.cells :: R) := s2.perm [2, 1]; have gT := run_loadG agg_en (vs := e.cells) rfl (St.pick 1 s3).rowAll)
    | (go_at_call 50; refine check_c s3 ?_; rintro w4 s4; rw [HC.out]))
  try simp only [Act.put, List.setIfInBounds_toArray, List.set_cons_succ, List.set_cons_zero]
  have hN_s5 : Nonempty (Cls (fun w' => St W w' (RepA A r :: row T 0 e.cells :: row V 0 EnV.zero.cells :: R))) := Cls.inh s4
  have f5_s5 := fun s : Cls (fun w' => St W w' (RepA A r :: row T 0 e.cells :: row V 0 EnV.zero.cells :: R)) => (repLd s.h).1
  have gA_s5 := fun s : Cls (fun w' => St W w' (RepA A r :: row T 0 e.cells :: row V 0 EnV.zero.cells :: R)) => (enL (St.pick 1 s.h)).2.2.2.2.1
  refine wp_region_class_tail (fun w' => St W w' (RepA A r :: row T 0 e.cells :: row V 0 EnV.zero.cells :: R)) 6 (by kernel_rfl) (by kernel_rfl) (St.drew s4) ?_
  simp only [List.take_succ_cons, List.take_zero, List.drop_succ_cons, List.drop_zero]
  repeat (go_big_quiet_step ((fail)))
  clear hN_s5 f5_s5 gA_s5
  refine wpQuiet_nil ?_
  rintro ⟨w5, s5⟩
  dsimp only
  go_upto_region 5 with (go_at_call 116; refine see_c (St.pick 1 (RepA.open.1 s5)) ?_; rintro w6 s6; have s7 : St W w6 (RepA A q :: row T 0 e.cells :: row V 0 EnV.zero.cells :: R) := (by rw [← HQ.out]; exact see_open (s6.perm [1])))
  go_cut [8, 9] (fun p v wx => ∃ U, p = .pointer (some ⟨U, 0, none⟩) ∧ v = .bool true ∧ St W wx (RepA A q :: row U 0 x.cells :: row T 0 e.cells :: row V 0 EnV.zero.cells :: R))
  case first =>
    have u : St W w6.drew (RepA A q :: row T 0 e.cells :: row V 0 EnV.zero.cells :: R) := s7.drew
    have gA := And.intro (repLd u).2.1 (enL (St.pick 1 u)).1
    have u2 := (s7.alloc EnV.zero.cells.toArray 67).drew
    have gB := And.intro (repLd (St.pick 1 u2)).2.1 (enL (St.pick 2 u2)).1
    have gz := zero_en
    have hone : oneG x.cells 9 := ⟨rfl, env_one _⟩
    go_region_held3 (fun w' => (loadG 110 (.pointer (some ⟨A.p, 7, none⟩))).run Tryz.prog w' = .ok (.pointer (some ⟨A.tb, 0, none⟩)) w' ∧ (loadG 9 (.pointer (some ⟨T, 0, none⟩))).run Tryz.prog w' = .ok (.string e.key) w')
      (first
        | with_reducible exact gE
        | with_reducible exact gD
        | with_reducible exact gC
        | with_reducible exact gB
        | with_reducible exact gA)
      (first
        | (go_at_call 44; first
            | (refine getE_c HQO.out.tab HL.out (St.pick 2 (RepA.open.1 u)) ?_; rintro w5 t5; rw [HB.out, HE.out]; have s5 : St W w5 (RepA A q :: row T 0 e.cells :: row V 0 EnV.zero.cells :: R) := RepA.open.2 (t5.perm [1, 1]); have gC := And.intro (repLd s5).2.1 (enL (St.pick 1 s5)).1; have u5 := s5.alloc EnV.zero.cells.toArray 67; have gD := And.intro (repLd (St.pick 1 u5)).2.1 (enL (St.pick 2 u5)).1; have rB := run_storeG agg_en (b := w5.heap.size) (o := 0) (u5.roomG rfl) hone; have u6 := u5.setAll (vs := x.cells) rfl; have gE := And.intro (repLd (St.pick 1 u6)).2.1 (enL (St.pick 2 u6)).1)
            | (refine getE_c HQO.out.tab HL.out (St.pick 2 (RepA.open.1 (St.pick 1 u2))) ?_; rintro w5 t5; rw [HB.out, HE.out]; have s5 : St W w5 (row w6.heap.size 0 EnV.zero.cells :: RepA A q :: row T 0 e.cells :: row V 0 EnV.zero.cells :: R) := St.pick 1 (RepA.open.2 (t5.perm [1, 1])); have gC := And.intro (repLd (St.pick 1 s5)).2.1 (enL (St.pick 2 s5)).1; have rB := run_storeG agg_en (b := w6.heap.size) (o := 0) (s5.roomG rfl) hone; have u6 := s5.setAll (vs := x.cells) rfl; have gE := And.intro (repLd (St.pick 1 u6)).2.1 (enL (St.pick 2 u6)).1)))
    all_goals
      go_wp2_with fail
      go_meet
      case rel => exact ⟨_, rfl, rfl, St.pick 1 u6⟩
  case rest =>
  obtain ⟨U, rfl, rfl, s8⟩ := hcut
  have lT := run_loadG agg_en (vs := e.cells) rfl (St.pick 2 s8).rowAll
  have lU := run_loadG agg_en (vs := x.cells) rfl (St.pick 1 s8).rowAll
  go_upto_region 11 with (go_at_call 119; refine newer_c s8 ?_; rintro w9 s9; rw [HN.out])
  go_cut [63] (fun v wx => v = .bool false ∧ St W wx (RepA A q :: row U 0 x.cells :: row T 0 e.cells :: row V 0 EnV.zero.cells :: R))
  case first =>
    cases d with
    | false =>
      try simp only [Act.put, List.setIfInBounds_toArray, List.set_cons_succ, List.set_cons_zero]
      have hN : Nonempty (Cls (fun w' => St W w' (RepA A q :: row U 0 x.cells :: row T 0 e.cells :: row V 0 EnV.zero.cells :: R))) := Cls.inh s9
      have fd := fun s : Cls (fun w' => St W w' (RepA A q :: row U 0 x.cells :: row T 0 e.cells :: row V 0 EnV.zero.cells :: R)) => (by have := (enL (St.pick 2 s.h)).2.2.1; rw [HD.out] at this; exact this : (loadG 4 (.pointer (some ⟨T, 2, none⟩))).run Tryz.prog s.w = .ok (.bool false) s.w)
      have ft := fun s : Cls (fun w' => St W w' (RepA A q :: row U 0 x.cells :: row T 0 e.cells :: row V 0 EnV.zero.cells :: R)) => repT1 s.h
      have fa := fun s : Cls (fun w' => St W w' (RepA A q :: row U 0 x.cells :: row T 0 e.cells :: row V 0 EnV.zero.cells :: R)) => (enL (St.pick 2 s.h)).2.2.2.2.2.2.1
      refine wp_region_class (fun w' => St W w' (RepA A q :: row U 0 x.cells :: row T 0 e.cells :: row V 0 EnV.zero.cells :: R)) (by kernel_rfl) (by kernel_rfl) s9.drew ?_
      repeat (go_big_quiet_step (fail))
      clear hN fd ft fa
      refine wpQuiet_nil ?_
      rintro ⟨wb, sb⟩
      dsimp only
      go_wp2_with fail
      go_meet
      case rel => exact ⟨rfl, sb⟩
    | true =>
      cases t with
      | false =>
        try simp only [Act.put, List.setIfInBounds_toArray, List.set_cons_succ, List.set_cons_zero]
        have hN : Nonempty (Cls (fun w' => St W w' (RepA A q :: row U 0 x.cells :: row T 0 e.cells :: row V 0 EnV.zero.cells :: R))) := Cls.inh s9
        have fd := fun s : Cls (fun w' => St W w' (RepA A q :: row U 0 x.cells :: row T 0 e.cells :: row V 0 EnV.zero.cells :: R)) => (by have := (enL (St.pick 2 s.h)).2.2.1; rw [HD.out] at this; exact this : (loadG 4 (.pointer (some ⟨T, 2, none⟩))).run Tryz.prog s.w = .ok (.bool true) s.w)
        have ft := fun s : Cls (fun w' => St W w' (RepA A q :: row U 0 x.cells :: row T 0 e.cells :: row V 0 EnV.zero.cells :: R)) => repT1 s.h
        have fa := fun s : Cls (fun w' => St W w' (RepA A q :: row U 0 x.cells :: row T 0 e.cells :: row V 0 EnV.zero.cells :: R)) => (enL (St.pick 2 s.h)).2.2.2.2.2.2.1
        refine wp_region_class (fun w' => St W w' (RepA A q :: row U 0 x.cells :: row T 0 e.cells :: row V 0 EnV.zero.cells :: R)) (by kernel_rfl) (by kernel_rfl) s9.drew ?_
        repeat (go_big_quiet_step (fail))
        clear hN fd ft fa
        refine wpQuiet_nil ?_
        rintro ⟨wb, sb⟩
        dsimp only
        go_wp2_with fail
        go_meet
        case rel => exact ⟨rfl, sb⟩
      | true =>
        have hz : a = false := by have := HPP.out; simpa using this
        subst hz
        try simp only [Act.put, List.setIfInBounds_toArray, List.set_cons_succ, List.set_cons_zero]
        have hN : Nonempty (Cls (fun w' => St W w' (RepA A q :: row U 0 x.cells :: row T 0 e.cells :: row V 0 EnV.zero.cells :: R))) := Cls.inh s9
        have fd := fun s : Cls (fun w' => St W w' (RepA A q :: row U 0 x.cells :: row T 0 e.cells :: row V 0 EnV.zero.cells :: R)) => (by have := (enL (St.pick 2 s.h)).2.2.1; rw [HD.out] at this; exact this : (loadG 4 (.pointer (some ⟨T, 2, none⟩))).run Tryz.prog s.w = .ok (.bool true) s.w)
        have ft := fun s : Cls (fun w' => St W w' (RepA A q :: row U 0 x.cells :: row T 0 e.cells :: row V 0 EnV.zero.cells :: R)) => repT1 s.h
        have fa := fun s : Cls (fun w' => St W w' (RepA A q :: row U 0 x.cells :: row T 0 e.cells :: row V 0 EnV.zero.cells :: R)) => (enL (St.pick 2 s.h)).2.2.2.2.2.2.1
        refine wp_region_class (fun w' => St W w' (RepA A q :: row U 0 x.cells :: row T 0 e.cells :: row V 0 EnV.zero.cells :: R)) (by kernel_rfl) (by kernel_rfl) s9.drew ?_
        repeat (go_big_quiet_step (fail))
        clear hN fd ft fa
        refine wpQuiet_nil ?_
        rintro ⟨wb, sb⟩
        dsimp only
        go_wp2_with fail
        go_meet
        case rel => exact ⟨rfl, sb⟩
  case rest =>
  obtain ⟨rfl, sb⟩ := hcut
  have lk := (enL (St.pick 2 sb)).1
  go_wp2_with (first
    | (go_at_call 96; refine room_c HQO.out sb ?_; rintro wc sc; rw [HRM.out])
    | (refine wpl_build rfl rfl (v := .agg EnV.zero.cells.toArray) (by kernel_rfl) ?_)
    | (refine wpl_storeA (vs := EnV.zero.cells) rfl (.tmp 5) (.tmp 92) (by rfl) agg_en (by rfl) (by rfl) rfl (env_one _) (St.pick 3 sc) rfl ?_; rintro wz sz))
  have hL := run_loadA agg_en (vs := EnV.zero.cells) rfl sz.rowAll
  exact bodyPost_ret (v := .tuple #[.int .i64 0, .agg (EnV.zero.cells).toArray, .int .i64 7]) (by simp [results, Tryz.results90, asAddr, hL]) rfl (HK.out _ ((sz.perm [0, 1, 1]).dropN 3))

attribute [local go_sem ↓] execOp_stE in
set_option maxRecDepth 100000 in
set_option maxHeartbeats 8000000 in
theorem merge_wake_false {e x : EnV} {q : RepV} (h : RepOK r) (hc : checkE e = 0) (hq : r.see e.ac e.az = q) (hx : tget q.tab e.key = x) (hb : thas q.tab e.key = false)  (hp : (e.dead && (decide (0 < q.t1) && decide (q.t1 - 1 ≤ e.age))) = false) (hr : q.roomB e.key = true) (ho : q.overB e = true) (st : St W w (RepA A r :: R))
    (K : ∀ w', St W w' (RepA A (q.woken e.key) :: R) → post (.returned (.tuple #[.int .i64 (if q.wokenW e.key = 0 then 2 else 0), .agg (if q.wokenW e.key = 0 then wakeE (tget q.gr e.key) (q.cnt + 1) q.site else EnV.zero).cells.toArray, .int .i64 (q.wokenW e.key)])) w') :
    Calls Tryz.prog 90 #[.pointer (some ⟨A.p, 0, none⟩), .agg e.cells.toArray] w post := by
  have HK := hid K; clear K
  have hqo : RepOK q := by rw [← hq]; exact h.see _ _
  have HQO := hid hqo; have HQ := hid hq; have HB := hid hb; have HE := hid hx; have HC := hid hc
  have HL : Hid (q.tab.length ≤ 4096) := hid (by have := hqo.len; have := hqo.room; omega)
  have hw : IntKind.i64.wrap (q.t1 - 1) = q.t1 - 1 := IntWalk.i64_in _ (by have := hqo.t1; omega)
  have HRM := hid hr
  have HOV : Hid ((thas q.gr e.key && decide (0 < cmpS (tget q.gr e.key).sc (tget q.gr e.key).ss e.sc e.ss)) = true) := hid ho
  clear hr ho
  obtain ⟨kk, hkk⟩ : ∃ kk : Int, (if q.wokenW e.key = 0 then 2 else 0) = kk := ⟨_, rfl⟩
  obtain ⟨f, hff⟩ : ∃ f, (if q.wokenW e.key = 0 then wakeE (tget q.gr e.key) (q.cnt + 1) q.site else EnV.zero) = f := ⟨_, rfl⟩
  obtain ⟨c, hcc⟩ : ∃ c, q.wokenW e.key = c := ⟨_, rfl⟩
  have HK2 := HK.out
  rw [hkk, hff, hcc] at HK2
  have HK3 := hid HK2
  have HKK := hid hkk; have HWX := hid hff; have HWC := hid hcc
  clear hkk hff hcc HK2 HK
  obtain ⟨d, hd⟩ : ∃ d, e.dead = d := ⟨_, rfl⟩
  obtain ⟨t, ht⟩ : ∃ t, decide (0 < q.t1) = t := ⟨_, rfl⟩
  obtain ⟨a, ha⟩ : ∃ a, decide (q.t1 - 1 ≤ e.age) = a := ⟨_, rfl⟩
  rw [hd, ht, ha] at hp
  have HPP := hid hp; have HD := hid hd
  clear hp hd
  clear hqo hq hb hx hc h
  go_enter Tryz.func90, Tryz.ntmps90
  go_wp2_with (first
    | (refine wpl_boxA (vs := e.cells) rfl (.tmp 1) rfl rfl st ?_; rintro T w1 s1)
    | (refine wpl_allocA rfl rfl zero_en s1 ?_; rintro V w2 s2; have s3 : St W w2 (RepA A r :: row T 0 e.cells :: row V 0 EnV.zero.cells :: R) := s2.perm [2, 1]; have gT := run_loadG agg_en (vs := e.cells) rfl (St.pick 1 s3).rowAll)
    | (go_at_call 50; refine check_c s3 ?_; rintro w4 s4; rw [HC.out]))
  try simp only [Act.put, List.setIfInBounds_toArray, List.set_cons_succ, List.set_cons_zero]
  have hN_s5 : Nonempty (Cls (fun w' => St W w' (RepA A r :: row T 0 e.cells :: row V 0 EnV.zero.cells :: R))) := Cls.inh s4
  have f5_s5 := fun s : Cls (fun w' => St W w' (RepA A r :: row T 0 e.cells :: row V 0 EnV.zero.cells :: R)) => (repLd s.h).1
  have gA_s5 := fun s : Cls (fun w' => St W w' (RepA A r :: row T 0 e.cells :: row V 0 EnV.zero.cells :: R)) => (enL (St.pick 1 s.h)).2.2.2.2.1
  refine wp_region_class_tail (fun w' => St W w' (RepA A r :: row T 0 e.cells :: row V 0 EnV.zero.cells :: R)) 6 (by kernel_rfl) (by kernel_rfl) (St.drew s4) ?_
  simp only [List.take_succ_cons, List.take_zero, List.drop_succ_cons, List.drop_zero]
  repeat (go_big_quiet_step ((fail)))
  clear hN_s5 f5_s5 gA_s5
  refine wpQuiet_nil ?_
  rintro ⟨w5, s5⟩
  dsimp only
  go_upto_region 5 with (go_at_call 116; refine see_c (St.pick 1 (RepA.open.1 s5)) ?_; rintro w6 s6; have s7 : St W w6 (RepA A q :: row T 0 e.cells :: row V 0 EnV.zero.cells :: R) := (by rw [← HQ.out]; exact see_open (s6.perm [1])))
  go_cut [8, 9] (fun p v wx => ∃ U, p = .pointer (some ⟨U, 0, none⟩) ∧ v = .bool false ∧ St W wx (RepA A q :: row U 0 x.cells :: row T 0 e.cells :: row V 0 EnV.zero.cells :: R))
  case first =>
    have u : St W w6.drew (RepA A q :: row T 0 e.cells :: row V 0 EnV.zero.cells :: R) := s7.drew
    have gA := And.intro (repLd u).2.1 (enL (St.pick 1 u)).1
    have u2 := (s7.alloc EnV.zero.cells.toArray 67).drew
    have gB := And.intro (repLd (St.pick 1 u2)).2.1 (enL (St.pick 2 u2)).1
    have gz := zero_en
    have hone : oneG x.cells 9 := ⟨rfl, env_one _⟩
    go_region_held3 (fun w' => (loadG 110 (.pointer (some ⟨A.p, 7, none⟩))).run Tryz.prog w' = .ok (.pointer (some ⟨A.tb, 0, none⟩)) w' ∧ (loadG 9 (.pointer (some ⟨T, 0, none⟩))).run Tryz.prog w' = .ok (.string e.key) w')
      (first
        | with_reducible exact gE
        | with_reducible exact gD
        | with_reducible exact gC
        | with_reducible exact gB
        | with_reducible exact gA)
      (first
        | (go_at_call 44; first
            | (refine getE_c HQO.out.tab HL.out (St.pick 2 (RepA.open.1 u)) ?_; rintro w5 t5; rw [HB.out, HE.out]; have s5 : St W w5 (RepA A q :: row T 0 e.cells :: row V 0 EnV.zero.cells :: R) := RepA.open.2 (t5.perm [1, 1]); have gC := And.intro (repLd s5).2.1 (enL (St.pick 1 s5)).1; have u5 := s5.alloc EnV.zero.cells.toArray 67; have gD := And.intro (repLd (St.pick 1 u5)).2.1 (enL (St.pick 2 u5)).1; have rB := run_storeG agg_en (b := w5.heap.size) (o := 0) (u5.roomG rfl) hone; have u6 := u5.setAll (vs := x.cells) rfl; have gE := And.intro (repLd (St.pick 1 u6)).2.1 (enL (St.pick 2 u6)).1)
            | (refine getE_c HQO.out.tab HL.out (St.pick 2 (RepA.open.1 (St.pick 1 u2))) ?_; rintro w5 t5; rw [HB.out, HE.out]; have s5 : St W w5 (row w6.heap.size 0 EnV.zero.cells :: RepA A q :: row T 0 e.cells :: row V 0 EnV.zero.cells :: R) := St.pick 1 (RepA.open.2 (t5.perm [1, 1])); have gC := And.intro (repLd (St.pick 1 s5)).2.1 (enL (St.pick 2 s5)).1; have rB := run_storeG agg_en (b := w6.heap.size) (o := 0) (s5.roomG rfl) hone; have u6 := s5.setAll (vs := x.cells) rfl; have gE := And.intro (repLd (St.pick 1 u6)).2.1 (enL (St.pick 2 u6)).1)))
    all_goals
      go_wp2_with fail
      go_meet
      case rel => exact ⟨_, rfl, rfl, St.pick 1 u6⟩
  case rest =>
  obtain ⟨U, rfl, rfl, s8⟩ := hcut
  have s9 := s8
  go_upto_region 11 with (fail)
  go_cut [63] (fun v wx => v = .bool false ∧ St W wx (RepA A q :: row U 0 x.cells :: row T 0 e.cells :: row V 0 EnV.zero.cells :: R))
  case first =>
    cases d with
    | false =>
      try simp only [Act.put, List.setIfInBounds_toArray, List.set_cons_succ, List.set_cons_zero]
      have hN : Nonempty (Cls (fun w' => St W w' (RepA A q :: row U 0 x.cells :: row T 0 e.cells :: row V 0 EnV.zero.cells :: R))) := Cls.inh s9
      have fd := fun s : Cls (fun w' => St W w' (RepA A q :: row U 0 x.cells :: row T 0 e.cells :: row V 0 EnV.zero.cells :: R)) => (by have := (enL (St.pick 2 s.h)).2.2.1; rw [HD.out] at this; exact this : (loadG 4 (.pointer (some ⟨T, 2, none⟩))).run Tryz.prog s.w = .ok (.bool false) s.w)
      have ft := fun s : Cls (fun w' => St W w' (RepA A q :: row U 0 x.cells :: row T 0 e.cells :: row V 0 EnV.zero.cells :: R)) => repT1 s.h
      have fa := fun s : Cls (fun w' => St W w' (RepA A q :: row U 0 x.cells :: row T 0 e.cells :: row V 0 EnV.zero.cells :: R)) => (enL (St.pick 2 s.h)).2.2.2.2.2.2.1
      refine wp_region_class (fun w' => St W w' (RepA A q :: row U 0 x.cells :: row T 0 e.cells :: row V 0 EnV.zero.cells :: R)) (by kernel_rfl) (by kernel_rfl) s9.drew ?_
      repeat (go_big_quiet_step (fail))
      clear hN fd ft fa
      refine wpQuiet_nil ?_
      rintro ⟨wb, sb⟩
      dsimp only
      go_wp2_with fail
      go_meet
      case rel => exact ⟨rfl, sb⟩
    | true =>
      cases t with
      | false =>
        try simp only [Act.put, List.setIfInBounds_toArray, List.set_cons_succ, List.set_cons_zero]
        have hN : Nonempty (Cls (fun w' => St W w' (RepA A q :: row U 0 x.cells :: row T 0 e.cells :: row V 0 EnV.zero.cells :: R))) := Cls.inh s9
        have fd := fun s : Cls (fun w' => St W w' (RepA A q :: row U 0 x.cells :: row T 0 e.cells :: row V 0 EnV.zero.cells :: R)) => (by have := (enL (St.pick 2 s.h)).2.2.1; rw [HD.out] at this; exact this : (loadG 4 (.pointer (some ⟨T, 2, none⟩))).run Tryz.prog s.w = .ok (.bool true) s.w)
        have ft := fun s : Cls (fun w' => St W w' (RepA A q :: row U 0 x.cells :: row T 0 e.cells :: row V 0 EnV.zero.cells :: R)) => repT1 s.h
        have fa := fun s : Cls (fun w' => St W w' (RepA A q :: row U 0 x.cells :: row T 0 e.cells :: row V 0 EnV.zero.cells :: R)) => (enL (St.pick 2 s.h)).2.2.2.2.2.2.1
        refine wp_region_class (fun w' => St W w' (RepA A q :: row U 0 x.cells :: row T 0 e.cells :: row V 0 EnV.zero.cells :: R)) (by kernel_rfl) (by kernel_rfl) s9.drew ?_
        repeat (go_big_quiet_step (fail))
        clear hN fd ft fa
        refine wpQuiet_nil ?_
        rintro ⟨wb, sb⟩
        dsimp only
        go_wp2_with fail
        go_meet
        case rel => exact ⟨rfl, sb⟩
      | true =>
        have hz : a = false := by have := HPP.out; simpa using this
        subst hz
        try simp only [Act.put, List.setIfInBounds_toArray, List.set_cons_succ, List.set_cons_zero]
        have hN : Nonempty (Cls (fun w' => St W w' (RepA A q :: row U 0 x.cells :: row T 0 e.cells :: row V 0 EnV.zero.cells :: R))) := Cls.inh s9
        have fd := fun s : Cls (fun w' => St W w' (RepA A q :: row U 0 x.cells :: row T 0 e.cells :: row V 0 EnV.zero.cells :: R)) => (by have := (enL (St.pick 2 s.h)).2.2.1; rw [HD.out] at this; exact this : (loadG 4 (.pointer (some ⟨T, 2, none⟩))).run Tryz.prog s.w = .ok (.bool true) s.w)
        have ft := fun s : Cls (fun w' => St W w' (RepA A q :: row U 0 x.cells :: row T 0 e.cells :: row V 0 EnV.zero.cells :: R)) => repT1 s.h
        have fa := fun s : Cls (fun w' => St W w' (RepA A q :: row U 0 x.cells :: row T 0 e.cells :: row V 0 EnV.zero.cells :: R)) => (enL (St.pick 2 s.h)).2.2.2.2.2.2.1
        refine wp_region_class (fun w' => St W w' (RepA A q :: row U 0 x.cells :: row T 0 e.cells :: row V 0 EnV.zero.cells :: R)) (by kernel_rfl) (by kernel_rfl) s9.drew ?_
        repeat (go_big_quiet_step (fail))
        clear hN fd ft fa
        refine wpQuiet_nil ?_
        rintro ⟨wb, sb⟩
        dsimp only
        go_wp2_with fail
        go_meet
        case rel => exact ⟨rfl, sb⟩
  case rest =>
  obtain ⟨rfl, sb⟩ := hcut
  have lk := (enL (St.pick 2 sb)).1
  go_wp2_with (go_at_call 96; refine room_c HQO.out sb ?_; rintro wc sc; rw [HRM.out])
  try simp only [Act.put, List.setIfInBounds_toArray, List.set_cons_succ, List.set_cons_zero]
  have hN_sd : Nonempty (Cls (fun w' => St W w' (RepA A q :: row U 0 x.cells :: row T 0 e.cells :: row V 0 EnV.zero.cells :: R))) := Cls.inh sc
  have f10_sd := fun s : Cls (fun w' => St W w' (RepA A q :: row U 0 x.cells :: row T 0 e.cells :: row V 0 EnV.zero.cells :: R)) => (repLd s.h).2.2.2.2.1
  have gT_sd := fun s : Cls (fun w' => St W w' (RepA A q :: row U 0 x.cells :: row T 0 e.cells :: row V 0 EnV.zero.cells :: R)) => run_loadG agg_en (vs := e.cells) rfl (St.pick 2 s.h).rowAll
  refine wp_region_class_tail (fun w' => St W w' (RepA A q :: row U 0 x.cells :: row T 0 e.cells :: row V 0 EnV.zero.cells :: R)) 5 (by kernel_rfl) (by kernel_rfl) (St.drew sc) ?_
  simp only [List.take_succ_cons, List.take_zero, List.drop_succ_cons, List.drop_zero]
  repeat (go_big_quiet_step ((fail)))
  clear hN_sd f10_sd gT_sd
  refine wpQuiet_nil ?_
  rintro ⟨wd, sd⟩
  dsimp only
  go_wp2_with (first
    | (go_at_call 141; refine over_c HQO.out.gr HQO.out.grL ((RepA.open.1 sd).perm [5, 5]) ?_; rintro we se; rw [HOV.out]; have sf : St W we (RepA A q :: row U 0 x.cells :: row T 0 e.cells :: row V 0 EnV.zero.cells :: R) := RepA.open.2 (se.perm [2, 2, 2, 2, 2, 0, 0]); have lk2 := (enL (St.pick 2 sf)).1; have lT2 := run_loadG agg_en (vs := e.cells) rfl (St.pick 2 sf).rowAll; have lU2 := run_loadG agg_en (vs := x.cells) rfl (St.pick 1 sf).rowAll)
    | (go_at_call 142; refine wake_c HQO.out sf ?_; rintro wg sg; rw [HKK.out, HWX.out, HWC.out])
    | (refine wpl_storeA (vs := f.cells) rfl (.tmp 5) (.tmp 105) (by rfl) agg_en (by rfl) (by rfl) rfl (env_one _) (St.pick 3 sg) rfl ?_; rintro wz sz))
  have hL := run_loadA agg_en (vs := f.cells) rfl sz.rowAll
  exact bodyPost_ret (v := .tuple #[.int .i64 kk, .agg (f.cells).toArray, .int .i64 c]) (by simp [results, Tryz.results90, asAddr, hL]) rfl (HK3.out _ ((sz.perm [0, 1, 1]).dropN 3))

attribute [local go_sem ↓] execOp_stE in
set_option maxRecDepth 100000 in
set_option maxHeartbeats 8000000 in
theorem merge_wake_true {e x : EnV} {q : RepV} (h : RepOK r) (hc : checkE e = 0) (hq : r.see e.ac e.az = q) (hx : tget q.tab e.key = x) (hb : thas q.tab e.key = true) (hn : newerB e x = true) (hp : (e.dead && (decide (0 < q.t1) && decide (q.t1 - 1 ≤ e.age))) = false) (hr : q.roomB e.key = true) (ho : q.overB e = true) (st : St W w (RepA A r :: R))
    (K : ∀ w', St W w' (RepA A (q.woken e.key) :: R) → post (.returned (.tuple #[.int .i64 (if q.wokenW e.key = 0 then 2 else 0), .agg (if q.wokenW e.key = 0 then wakeE (tget q.gr e.key) (q.cnt + 1) q.site else EnV.zero).cells.toArray, .int .i64 (q.wokenW e.key)])) w') :
    Calls Tryz.prog 90 #[.pointer (some ⟨A.p, 0, none⟩), .agg e.cells.toArray] w post := by
  have HK := hid K; clear K
  have hqo : RepOK q := by rw [← hq]; exact h.see _ _
  have HQO := hid hqo; have HQ := hid hq; have HB := hid hb; have HE := hid hx; have HC := hid hc
  have HL : Hid (q.tab.length ≤ 4096) := hid (by have := hqo.len; have := hqo.room; omega)
  have HN := hid hn
  clear hn
  have hw : IntKind.i64.wrap (q.t1 - 1) = q.t1 - 1 := IntWalk.i64_in _ (by have := hqo.t1; omega)
  have HRM := hid hr
  have HOV : Hid ((thas q.gr e.key && decide (0 < cmpS (tget q.gr e.key).sc (tget q.gr e.key).ss e.sc e.ss)) = true) := hid ho
  clear hr ho
  obtain ⟨kk, hkk⟩ : ∃ kk : Int, (if q.wokenW e.key = 0 then 2 else 0) = kk := ⟨_, rfl⟩
  obtain ⟨f, hff⟩ : ∃ f, (if q.wokenW e.key = 0 then wakeE (tget q.gr e.key) (q.cnt + 1) q.site else EnV.zero) = f := ⟨_, rfl⟩
  obtain ⟨c, hcc⟩ : ∃ c, q.wokenW e.key = c := ⟨_, rfl⟩
  have HK2 := HK.out
  rw [hkk, hff, hcc] at HK2
  have HK3 := hid HK2
  have HKK := hid hkk; have HWX := hid hff; have HWC := hid hcc
  clear hkk hff hcc HK2 HK
  obtain ⟨d, hd⟩ : ∃ d, e.dead = d := ⟨_, rfl⟩
  obtain ⟨t, ht⟩ : ∃ t, decide (0 < q.t1) = t := ⟨_, rfl⟩
  obtain ⟨a, ha⟩ : ∃ a, decide (q.t1 - 1 ≤ e.age) = a := ⟨_, rfl⟩
  rw [hd, ht, ha] at hp
  have HPP := hid hp; have HD := hid hd
  clear hp hd
  clear hqo hq hb hx hc h
  go_enter Tryz.func90, Tryz.ntmps90
  go_wp2_with (first
    | (refine wpl_boxA (vs := e.cells) rfl (.tmp 1) rfl rfl st ?_; rintro T w1 s1)
    | (refine wpl_allocA rfl rfl zero_en s1 ?_; rintro V w2 s2; have s3 : St W w2 (RepA A r :: row T 0 e.cells :: row V 0 EnV.zero.cells :: R) := s2.perm [2, 1]; have gT := run_loadG agg_en (vs := e.cells) rfl (St.pick 1 s3).rowAll)
    | (go_at_call 50; refine check_c s3 ?_; rintro w4 s4; rw [HC.out]))
  try simp only [Act.put, List.setIfInBounds_toArray, List.set_cons_succ, List.set_cons_zero]
  have hN_s5 : Nonempty (Cls (fun w' => St W w' (RepA A r :: row T 0 e.cells :: row V 0 EnV.zero.cells :: R))) := Cls.inh s4
  have f5_s5 := fun s : Cls (fun w' => St W w' (RepA A r :: row T 0 e.cells :: row V 0 EnV.zero.cells :: R)) => (repLd s.h).1
  have gA_s5 := fun s : Cls (fun w' => St W w' (RepA A r :: row T 0 e.cells :: row V 0 EnV.zero.cells :: R)) => (enL (St.pick 1 s.h)).2.2.2.2.1
  refine wp_region_class_tail (fun w' => St W w' (RepA A r :: row T 0 e.cells :: row V 0 EnV.zero.cells :: R)) 6 (by kernel_rfl) (by kernel_rfl) (St.drew s4) ?_
  simp only [List.take_succ_cons, List.take_zero, List.drop_succ_cons, List.drop_zero]
  repeat (go_big_quiet_step ((fail)))
  clear hN_s5 f5_s5 gA_s5
  refine wpQuiet_nil ?_
  rintro ⟨w5, s5⟩
  dsimp only
  go_upto_region 5 with (go_at_call 116; refine see_c (St.pick 1 (RepA.open.1 s5)) ?_; rintro w6 s6; have s7 : St W w6 (RepA A q :: row T 0 e.cells :: row V 0 EnV.zero.cells :: R) := (by rw [← HQ.out]; exact see_open (s6.perm [1])))
  go_cut [8, 9] (fun p v wx => ∃ U, p = .pointer (some ⟨U, 0, none⟩) ∧ v = .bool true ∧ St W wx (RepA A q :: row U 0 x.cells :: row T 0 e.cells :: row V 0 EnV.zero.cells :: R))
  case first =>
    have u : St W w6.drew (RepA A q :: row T 0 e.cells :: row V 0 EnV.zero.cells :: R) := s7.drew
    have gA := And.intro (repLd u).2.1 (enL (St.pick 1 u)).1
    have u2 := (s7.alloc EnV.zero.cells.toArray 67).drew
    have gB := And.intro (repLd (St.pick 1 u2)).2.1 (enL (St.pick 2 u2)).1
    have gz := zero_en
    have hone : oneG x.cells 9 := ⟨rfl, env_one _⟩
    go_region_held3 (fun w' => (loadG 110 (.pointer (some ⟨A.p, 7, none⟩))).run Tryz.prog w' = .ok (.pointer (some ⟨A.tb, 0, none⟩)) w' ∧ (loadG 9 (.pointer (some ⟨T, 0, none⟩))).run Tryz.prog w' = .ok (.string e.key) w')
      (first
        | with_reducible exact gE
        | with_reducible exact gD
        | with_reducible exact gC
        | with_reducible exact gB
        | with_reducible exact gA)
      (first
        | (go_at_call 44; first
            | (refine getE_c HQO.out.tab HL.out (St.pick 2 (RepA.open.1 u)) ?_; rintro w5 t5; rw [HB.out, HE.out]; have s5 : St W w5 (RepA A q :: row T 0 e.cells :: row V 0 EnV.zero.cells :: R) := RepA.open.2 (t5.perm [1, 1]); have gC := And.intro (repLd s5).2.1 (enL (St.pick 1 s5)).1; have u5 := s5.alloc EnV.zero.cells.toArray 67; have gD := And.intro (repLd (St.pick 1 u5)).2.1 (enL (St.pick 2 u5)).1; have rB := run_storeG agg_en (b := w5.heap.size) (o := 0) (u5.roomG rfl) hone; have u6 := u5.setAll (vs := x.cells) rfl; have gE := And.intro (repLd (St.pick 1 u6)).2.1 (enL (St.pick 2 u6)).1)
            | (refine getE_c HQO.out.tab HL.out (St.pick 2 (RepA.open.1 (St.pick 1 u2))) ?_; rintro w5 t5; rw [HB.out, HE.out]; have s5 : St W w5 (row w6.heap.size 0 EnV.zero.cells :: RepA A q :: row T 0 e.cells :: row V 0 EnV.zero.cells :: R) := St.pick 1 (RepA.open.2 (t5.perm [1, 1])); have gC := And.intro (repLd (St.pick 1 s5)).2.1 (enL (St.pick 2 s5)).1; have rB := run_storeG agg_en (b := w6.heap.size) (o := 0) (s5.roomG rfl) hone; have u6 := s5.setAll (vs := x.cells) rfl; have gE := And.intro (repLd (St.pick 1 u6)).2.1 (enL (St.pick 2 u6)).1)))
    all_goals
      go_wp2_with fail
      go_meet
      case rel => exact ⟨_, rfl, rfl, St.pick 1 u6⟩
  case rest =>
  obtain ⟨U, rfl, rfl, s8⟩ := hcut
  have lT := run_loadG agg_en (vs := e.cells) rfl (St.pick 2 s8).rowAll
  have lU := run_loadG agg_en (vs := x.cells) rfl (St.pick 1 s8).rowAll
  go_upto_region 11 with (go_at_call 119; refine newer_c s8 ?_; rintro w9 s9; rw [HN.out])
  go_cut [63] (fun v wx => v = .bool false ∧ St W wx (RepA A q :: row U 0 x.cells :: row T 0 e.cells :: row V 0 EnV.zero.cells :: R))
  case first =>
    cases d with
    | false =>
      try simp only [Act.put, List.setIfInBounds_toArray, List.set_cons_succ, List.set_cons_zero]
      have hN : Nonempty (Cls (fun w' => St W w' (RepA A q :: row U 0 x.cells :: row T 0 e.cells :: row V 0 EnV.zero.cells :: R))) := Cls.inh s9
      have fd := fun s : Cls (fun w' => St W w' (RepA A q :: row U 0 x.cells :: row T 0 e.cells :: row V 0 EnV.zero.cells :: R)) => (by have := (enL (St.pick 2 s.h)).2.2.1; rw [HD.out] at this; exact this : (loadG 4 (.pointer (some ⟨T, 2, none⟩))).run Tryz.prog s.w = .ok (.bool false) s.w)
      have ft := fun s : Cls (fun w' => St W w' (RepA A q :: row U 0 x.cells :: row T 0 e.cells :: row V 0 EnV.zero.cells :: R)) => repT1 s.h
      have fa := fun s : Cls (fun w' => St W w' (RepA A q :: row U 0 x.cells :: row T 0 e.cells :: row V 0 EnV.zero.cells :: R)) => (enL (St.pick 2 s.h)).2.2.2.2.2.2.1
      refine wp_region_class (fun w' => St W w' (RepA A q :: row U 0 x.cells :: row T 0 e.cells :: row V 0 EnV.zero.cells :: R)) (by kernel_rfl) (by kernel_rfl) s9.drew ?_
      repeat (go_big_quiet_step (fail))
      clear hN fd ft fa
      refine wpQuiet_nil ?_
      rintro ⟨wb, sb⟩
      dsimp only
      go_wp2_with fail
      go_meet
      case rel => exact ⟨rfl, sb⟩
    | true =>
      cases t with
      | false =>
        try simp only [Act.put, List.setIfInBounds_toArray, List.set_cons_succ, List.set_cons_zero]
        have hN : Nonempty (Cls (fun w' => St W w' (RepA A q :: row U 0 x.cells :: row T 0 e.cells :: row V 0 EnV.zero.cells :: R))) := Cls.inh s9
        have fd := fun s : Cls (fun w' => St W w' (RepA A q :: row U 0 x.cells :: row T 0 e.cells :: row V 0 EnV.zero.cells :: R)) => (by have := (enL (St.pick 2 s.h)).2.2.1; rw [HD.out] at this; exact this : (loadG 4 (.pointer (some ⟨T, 2, none⟩))).run Tryz.prog s.w = .ok (.bool true) s.w)
        have ft := fun s : Cls (fun w' => St W w' (RepA A q :: row U 0 x.cells :: row T 0 e.cells :: row V 0 EnV.zero.cells :: R)) => repT1 s.h
        have fa := fun s : Cls (fun w' => St W w' (RepA A q :: row U 0 x.cells :: row T 0 e.cells :: row V 0 EnV.zero.cells :: R)) => (enL (St.pick 2 s.h)).2.2.2.2.2.2.1
        refine wp_region_class (fun w' => St W w' (RepA A q :: row U 0 x.cells :: row T 0 e.cells :: row V 0 EnV.zero.cells :: R)) (by kernel_rfl) (by kernel_rfl) s9.drew ?_
        repeat (go_big_quiet_step (fail))
        clear hN fd ft fa
        refine wpQuiet_nil ?_
        rintro ⟨wb, sb⟩
        dsimp only
        go_wp2_with fail
        go_meet
        case rel => exact ⟨rfl, sb⟩
      | true =>
        have hz : a = false := by have := HPP.out; simpa using this
        subst hz
        try simp only [Act.put, List.setIfInBounds_toArray, List.set_cons_succ, List.set_cons_zero]
        have hN : Nonempty (Cls (fun w' => St W w' (RepA A q :: row U 0 x.cells :: row T 0 e.cells :: row V 0 EnV.zero.cells :: R))) := Cls.inh s9
        have fd := fun s : Cls (fun w' => St W w' (RepA A q :: row U 0 x.cells :: row T 0 e.cells :: row V 0 EnV.zero.cells :: R)) => (by have := (enL (St.pick 2 s.h)).2.2.1; rw [HD.out] at this; exact this : (loadG 4 (.pointer (some ⟨T, 2, none⟩))).run Tryz.prog s.w = .ok (.bool true) s.w)
        have ft := fun s : Cls (fun w' => St W w' (RepA A q :: row U 0 x.cells :: row T 0 e.cells :: row V 0 EnV.zero.cells :: R)) => repT1 s.h
        have fa := fun s : Cls (fun w' => St W w' (RepA A q :: row U 0 x.cells :: row T 0 e.cells :: row V 0 EnV.zero.cells :: R)) => (enL (St.pick 2 s.h)).2.2.2.2.2.2.1
        refine wp_region_class (fun w' => St W w' (RepA A q :: row U 0 x.cells :: row T 0 e.cells :: row V 0 EnV.zero.cells :: R)) (by kernel_rfl) (by kernel_rfl) s9.drew ?_
        repeat (go_big_quiet_step (fail))
        clear hN fd ft fa
        refine wpQuiet_nil ?_
        rintro ⟨wb, sb⟩
        dsimp only
        go_wp2_with fail
        go_meet
        case rel => exact ⟨rfl, sb⟩
  case rest =>
  obtain ⟨rfl, sb⟩ := hcut
  have lk := (enL (St.pick 2 sb)).1
  go_wp2_with (go_at_call 96; refine room_c HQO.out sb ?_; rintro wc sc; rw [HRM.out])
  try simp only [Act.put, List.setIfInBounds_toArray, List.set_cons_succ, List.set_cons_zero]
  have hN_sd : Nonempty (Cls (fun w' => St W w' (RepA A q :: row U 0 x.cells :: row T 0 e.cells :: row V 0 EnV.zero.cells :: R))) := Cls.inh sc
  have f10_sd := fun s : Cls (fun w' => St W w' (RepA A q :: row U 0 x.cells :: row T 0 e.cells :: row V 0 EnV.zero.cells :: R)) => (repLd s.h).2.2.2.2.1
  have gT_sd := fun s : Cls (fun w' => St W w' (RepA A q :: row U 0 x.cells :: row T 0 e.cells :: row V 0 EnV.zero.cells :: R)) => run_loadG agg_en (vs := e.cells) rfl (St.pick 2 s.h).rowAll
  refine wp_region_class_tail (fun w' => St W w' (RepA A q :: row U 0 x.cells :: row T 0 e.cells :: row V 0 EnV.zero.cells :: R)) 5 (by kernel_rfl) (by kernel_rfl) (St.drew sc) ?_
  simp only [List.take_succ_cons, List.take_zero, List.drop_succ_cons, List.drop_zero]
  repeat (go_big_quiet_step ((fail)))
  clear hN_sd f10_sd gT_sd
  refine wpQuiet_nil ?_
  rintro ⟨wd, sd⟩
  dsimp only
  go_wp2_with (first
    | (go_at_call 141; refine over_c HQO.out.gr HQO.out.grL ((RepA.open.1 sd).perm [5, 5]) ?_; rintro we se; rw [HOV.out]; have sf : St W we (RepA A q :: row U 0 x.cells :: row T 0 e.cells :: row V 0 EnV.zero.cells :: R) := RepA.open.2 (se.perm [2, 2, 2, 2, 2, 0, 0]); have lk2 := (enL (St.pick 2 sf)).1; have lT2 := run_loadG agg_en (vs := e.cells) rfl (St.pick 2 sf).rowAll; have lU2 := run_loadG agg_en (vs := x.cells) rfl (St.pick 1 sf).rowAll)
    | (go_at_call 142; refine wake_c HQO.out sf ?_; rintro wg sg; rw [HKK.out, HWX.out, HWC.out])
    | (refine wpl_storeA (vs := f.cells) rfl (.tmp 5) (.tmp 105) (by rfl) agg_en (by rfl) (by rfl) rfl (env_one _) (St.pick 3 sg) rfl ?_; rintro wz sz))
  have hL := run_loadA agg_en (vs := f.cells) rfl sz.rowAll
  exact bodyPost_ret (v := .tuple #[.int .i64 kk, .agg (f.cells).toArray, .int .i64 c]) (by simp [results, Tryz.results90, asAddr, hL]) rfl (HK3.out _ ((sz.perm [0, 1, 1]).dropN 3))

attribute [local go_sem ↓] execOp_stE in
set_option maxRecDepth 100000 in
set_option maxHeartbeats 8000000 in
theorem merge_bad_false {e x : EnV} {q : RepV} (h : RepOK r) (hc : checkE e = 0) (hq : r.see e.ac e.az = q) (hx : tget q.tab e.key = x) (hb : thas q.tab e.key = false)  (hp : (e.dead && (decide (0 < q.t1) && decide (q.t1 - 1 ≤ e.age))) = false) (hr : q.roomB e.key = true) (ho : q.overB e = false) (hs : ¬ q.setW (q.aged e x) = 0) (st : St W w (RepA A r :: R))
    (K : ∀ w', St W w' (RepA A (q.set (q.aged e x)) :: R) → post (.returned (.tuple #[.int .i64 0, .agg EnV.zero.cells.toArray, .int .i64 (q.setW (q.aged e x))])) w') :
    Calls Tryz.prog 90 #[.pointer (some ⟨A.p, 0, none⟩), .agg e.cells.toArray] w post := by
  have HK := hid K; clear K
  have hqo : RepOK q := by rw [← hq]; exact h.see _ _
  have HQO := hid hqo; have HQ := hid hq; have HB := hid hb; have HE := hid hx; have HC := hid hc
  have HL : Hid (q.tab.length ≤ 4096) := hid (by have := hqo.len; have := hqo.room; omega)
  have hw : IntKind.i64.wrap (q.t1 - 1) = q.t1 - 1 := IntWalk.i64_in _ (by have := hqo.t1; omega)
  have HRM := hid hr
  have HOV : Hid ((thas q.gr e.key && decide (0 < cmpS (tget q.gr e.key).sc (tget q.gr e.key).ss e.sc e.ss)) = false) := hid ho
  clear hr ho
  have HG0 : Hid (e.dead = true → 0 ≤ e.age ∧ e.age ≤ 2147483647) := hid (dead_age hc)
  obtain ⟨g, hg⟩ : ∃ g, q.aged e x = g := ⟨_, rfl⟩
  have HG := hid hg
  obtain ⟨z, hz⟩ : ∃ z, q.setW g = z := ⟨_, rfl⟩
  rw [hg, hz] at hs
  have h2 : (z != 0) = true := by simp [hs]
  have HK2 := HK.out
  rw [hg, hz] at HK2
  have HK3 := hid HK2
  have HZ := hid hz
  clear hg hz hs HK2 HK
  obtain ⟨d, hd⟩ : ∃ d, e.dead = d := ⟨_, rfl⟩
  obtain ⟨t, ht⟩ : ∃ t, decide (0 < q.t1) = t := ⟨_, rfl⟩
  obtain ⟨a, ha⟩ : ∃ a, decide (q.t1 - 1 ≤ e.age) = a := ⟨_, rfl⟩
  rw [hd, ht, ha] at hp
  have HPP := hid hp; have HD := hid hd
  clear hp hd
  clear hqo hq hb hx hc h
  go_enter Tryz.func90, Tryz.ntmps90
  go_wp2_with (first
    | (refine wpl_boxA (vs := e.cells) rfl (.tmp 1) rfl rfl st ?_; rintro T w1 s1)
    | (refine wpl_allocA rfl rfl zero_en s1 ?_; rintro V w2 s2; have s3 : St W w2 (RepA A r :: row T 0 e.cells :: row V 0 EnV.zero.cells :: R) := s2.perm [2, 1]; have gT := run_loadG agg_en (vs := e.cells) rfl (St.pick 1 s3).rowAll)
    | (go_at_call 50; refine check_c s3 ?_; rintro w4 s4; rw [HC.out]))
  try simp only [Act.put, List.setIfInBounds_toArray, List.set_cons_succ, List.set_cons_zero]
  have hN_s5 : Nonempty (Cls (fun w' => St W w' (RepA A r :: row T 0 e.cells :: row V 0 EnV.zero.cells :: R))) := Cls.inh s4
  have f5_s5 := fun s : Cls (fun w' => St W w' (RepA A r :: row T 0 e.cells :: row V 0 EnV.zero.cells :: R)) => (repLd s.h).1
  have gA_s5 := fun s : Cls (fun w' => St W w' (RepA A r :: row T 0 e.cells :: row V 0 EnV.zero.cells :: R)) => (enL (St.pick 1 s.h)).2.2.2.2.1
  refine wp_region_class_tail (fun w' => St W w' (RepA A r :: row T 0 e.cells :: row V 0 EnV.zero.cells :: R)) 6 (by kernel_rfl) (by kernel_rfl) (St.drew s4) ?_
  simp only [List.take_succ_cons, List.take_zero, List.drop_succ_cons, List.drop_zero]
  repeat (go_big_quiet_step ((fail)))
  clear hN_s5 f5_s5 gA_s5
  refine wpQuiet_nil ?_
  rintro ⟨w5, s5⟩
  dsimp only
  go_upto_region 5 with (go_at_call 116; refine see_c (St.pick 1 (RepA.open.1 s5)) ?_; rintro w6 s6; have s7 : St W w6 (RepA A q :: row T 0 e.cells :: row V 0 EnV.zero.cells :: R) := (by rw [← HQ.out]; exact see_open (s6.perm [1])))
  go_cut [8, 9] (fun p v wx => ∃ U, p = .pointer (some ⟨U, 0, none⟩) ∧ v = .bool false ∧ St W wx (RepA A q :: row U 0 x.cells :: row T 0 e.cells :: row V 0 EnV.zero.cells :: R))
  case first =>
    have u : St W w6.drew (RepA A q :: row T 0 e.cells :: row V 0 EnV.zero.cells :: R) := s7.drew
    have gA := And.intro (repLd u).2.1 (enL (St.pick 1 u)).1
    have u2 := (s7.alloc EnV.zero.cells.toArray 67).drew
    have gB := And.intro (repLd (St.pick 1 u2)).2.1 (enL (St.pick 2 u2)).1
    have gz := zero_en
    have hone : oneG x.cells 9 := ⟨rfl, env_one _⟩
    go_region_held3 (fun w' => (loadG 110 (.pointer (some ⟨A.p, 7, none⟩))).run Tryz.prog w' = .ok (.pointer (some ⟨A.tb, 0, none⟩)) w' ∧ (loadG 9 (.pointer (some ⟨T, 0, none⟩))).run Tryz.prog w' = .ok (.string e.key) w')
      (first
        | with_reducible exact gE
        | with_reducible exact gD
        | with_reducible exact gC
        | with_reducible exact gB
        | with_reducible exact gA)
      (first
        | (go_at_call 44; first
            | (refine getE_c HQO.out.tab HL.out (St.pick 2 (RepA.open.1 u)) ?_; rintro w5 t5; rw [HB.out, HE.out]; have s5 : St W w5 (RepA A q :: row T 0 e.cells :: row V 0 EnV.zero.cells :: R) := RepA.open.2 (t5.perm [1, 1]); have gC := And.intro (repLd s5).2.1 (enL (St.pick 1 s5)).1; have u5 := s5.alloc EnV.zero.cells.toArray 67; have gD := And.intro (repLd (St.pick 1 u5)).2.1 (enL (St.pick 2 u5)).1; have rB := run_storeG agg_en (b := w5.heap.size) (o := 0) (u5.roomG rfl) hone; have u6 := u5.setAll (vs := x.cells) rfl; have gE := And.intro (repLd (St.pick 1 u6)).2.1 (enL (St.pick 2 u6)).1)
            | (refine getE_c HQO.out.tab HL.out (St.pick 2 (RepA.open.1 (St.pick 1 u2))) ?_; rintro w5 t5; rw [HB.out, HE.out]; have s5 : St W w5 (row w6.heap.size 0 EnV.zero.cells :: RepA A q :: row T 0 e.cells :: row V 0 EnV.zero.cells :: R) := St.pick 1 (RepA.open.2 (t5.perm [1, 1])); have gC := And.intro (repLd (St.pick 1 s5)).2.1 (enL (St.pick 2 s5)).1; have rB := run_storeG agg_en (b := w6.heap.size) (o := 0) (s5.roomG rfl) hone; have u6 := s5.setAll (vs := x.cells) rfl; have gE := And.intro (repLd (St.pick 1 u6)).2.1 (enL (St.pick 2 u6)).1)))
    all_goals
      go_wp2_with fail
      go_meet
      case rel => exact ⟨_, rfl, rfl, St.pick 1 u6⟩
  case rest =>
  obtain ⟨U, rfl, rfl, s8⟩ := hcut
  have s9 := s8
  go_upto_region 11 with (fail)
  go_cut [63] (fun v wx => v = .bool false ∧ St W wx (RepA A q :: row U 0 x.cells :: row T 0 e.cells :: row V 0 EnV.zero.cells :: R))
  case first =>
    cases d with
    | false =>
      try simp only [Act.put, List.setIfInBounds_toArray, List.set_cons_succ, List.set_cons_zero]
      have hN : Nonempty (Cls (fun w' => St W w' (RepA A q :: row U 0 x.cells :: row T 0 e.cells :: row V 0 EnV.zero.cells :: R))) := Cls.inh s9
      have fd := fun s : Cls (fun w' => St W w' (RepA A q :: row U 0 x.cells :: row T 0 e.cells :: row V 0 EnV.zero.cells :: R)) => (by have := (enL (St.pick 2 s.h)).2.2.1; rw [HD.out] at this; exact this : (loadG 4 (.pointer (some ⟨T, 2, none⟩))).run Tryz.prog s.w = .ok (.bool false) s.w)
      have ft := fun s : Cls (fun w' => St W w' (RepA A q :: row U 0 x.cells :: row T 0 e.cells :: row V 0 EnV.zero.cells :: R)) => repT1 s.h
      have fa := fun s : Cls (fun w' => St W w' (RepA A q :: row U 0 x.cells :: row T 0 e.cells :: row V 0 EnV.zero.cells :: R)) => (enL (St.pick 2 s.h)).2.2.2.2.2.2.1
      refine wp_region_class (fun w' => St W w' (RepA A q :: row U 0 x.cells :: row T 0 e.cells :: row V 0 EnV.zero.cells :: R)) (by kernel_rfl) (by kernel_rfl) s9.drew ?_
      repeat (go_big_quiet_step (fail))
      clear hN fd ft fa
      refine wpQuiet_nil ?_
      rintro ⟨wb, sb⟩
      dsimp only
      go_wp2_with fail
      go_meet
      case rel => exact ⟨rfl, sb⟩
    | true =>
      cases t with
      | false =>
        try simp only [Act.put, List.setIfInBounds_toArray, List.set_cons_succ, List.set_cons_zero]
        have hN : Nonempty (Cls (fun w' => St W w' (RepA A q :: row U 0 x.cells :: row T 0 e.cells :: row V 0 EnV.zero.cells :: R))) := Cls.inh s9
        have fd := fun s : Cls (fun w' => St W w' (RepA A q :: row U 0 x.cells :: row T 0 e.cells :: row V 0 EnV.zero.cells :: R)) => (by have := (enL (St.pick 2 s.h)).2.2.1; rw [HD.out] at this; exact this : (loadG 4 (.pointer (some ⟨T, 2, none⟩))).run Tryz.prog s.w = .ok (.bool true) s.w)
        have ft := fun s : Cls (fun w' => St W w' (RepA A q :: row U 0 x.cells :: row T 0 e.cells :: row V 0 EnV.zero.cells :: R)) => repT1 s.h
        have fa := fun s : Cls (fun w' => St W w' (RepA A q :: row U 0 x.cells :: row T 0 e.cells :: row V 0 EnV.zero.cells :: R)) => (enL (St.pick 2 s.h)).2.2.2.2.2.2.1
        refine wp_region_class (fun w' => St W w' (RepA A q :: row U 0 x.cells :: row T 0 e.cells :: row V 0 EnV.zero.cells :: R)) (by kernel_rfl) (by kernel_rfl) s9.drew ?_
        repeat (go_big_quiet_step (fail))
        clear hN fd ft fa
        refine wpQuiet_nil ?_
        rintro ⟨wb, sb⟩
        dsimp only
        go_wp2_with fail
        go_meet
        case rel => exact ⟨rfl, sb⟩
      | true =>
        have hz : a = false := by have := HPP.out; simpa using this
        subst hz
        try simp only [Act.put, List.setIfInBounds_toArray, List.set_cons_succ, List.set_cons_zero]
        have hN : Nonempty (Cls (fun w' => St W w' (RepA A q :: row U 0 x.cells :: row T 0 e.cells :: row V 0 EnV.zero.cells :: R))) := Cls.inh s9
        have fd := fun s : Cls (fun w' => St W w' (RepA A q :: row U 0 x.cells :: row T 0 e.cells :: row V 0 EnV.zero.cells :: R)) => (by have := (enL (St.pick 2 s.h)).2.2.1; rw [HD.out] at this; exact this : (loadG 4 (.pointer (some ⟨T, 2, none⟩))).run Tryz.prog s.w = .ok (.bool true) s.w)
        have ft := fun s : Cls (fun w' => St W w' (RepA A q :: row U 0 x.cells :: row T 0 e.cells :: row V 0 EnV.zero.cells :: R)) => repT1 s.h
        have fa := fun s : Cls (fun w' => St W w' (RepA A q :: row U 0 x.cells :: row T 0 e.cells :: row V 0 EnV.zero.cells :: R)) => (enL (St.pick 2 s.h)).2.2.2.2.2.2.1
        refine wp_region_class (fun w' => St W w' (RepA A q :: row U 0 x.cells :: row T 0 e.cells :: row V 0 EnV.zero.cells :: R)) (by kernel_rfl) (by kernel_rfl) s9.drew ?_
        repeat (go_big_quiet_step (fail))
        clear hN fd ft fa
        refine wpQuiet_nil ?_
        rintro ⟨wb, sb⟩
        dsimp only
        go_wp2_with fail
        go_meet
        case rel => exact ⟨rfl, sb⟩
  case rest =>
  obtain ⟨rfl, sb⟩ := hcut
  have lk := (enL (St.pick 2 sb)).1
  go_wp2_with (go_at_call 96; refine room_c HQO.out sb ?_; rintro wc sc; rw [HRM.out])
  try simp only [Act.put, List.setIfInBounds_toArray, List.set_cons_succ, List.set_cons_zero]
  have hN_sd : Nonempty (Cls (fun w' => St W w' (RepA A q :: row U 0 x.cells :: row T 0 e.cells :: row V 0 EnV.zero.cells :: R))) := Cls.inh sc
  have f10_sd := fun s : Cls (fun w' => St W w' (RepA A q :: row U 0 x.cells :: row T 0 e.cells :: row V 0 EnV.zero.cells :: R)) => (repLd s.h).2.2.2.2.1
  have gT_sd := fun s : Cls (fun w' => St W w' (RepA A q :: row U 0 x.cells :: row T 0 e.cells :: row V 0 EnV.zero.cells :: R)) => run_loadG agg_en (vs := e.cells) rfl (St.pick 2 s.h).rowAll
  refine wp_region_class_tail (fun w' => St W w' (RepA A q :: row U 0 x.cells :: row T 0 e.cells :: row V 0 EnV.zero.cells :: R)) 5 (by kernel_rfl) (by kernel_rfl) (St.drew sc) ?_
  simp only [List.take_succ_cons, List.take_zero, List.drop_succ_cons, List.drop_zero]
  repeat (go_big_quiet_step ((fail)))
  clear hN_sd f10_sd gT_sd
  refine wpQuiet_nil ?_
  rintro ⟨wd, sd⟩
  dsimp only
  go_wp2_with (first
    | (go_at_call 141; refine over_c HQO.out.gr HQO.out.grL ((RepA.open.1 sd).perm [5, 5]) ?_; rintro we se; rw [HOV.out]; have sf : St W we (RepA A q :: row U 0 x.cells :: row T 0 e.cells :: row V 0 EnV.zero.cells :: R) := RepA.open.2 (se.perm [2, 2, 2, 2, 2, 0, 0]); have lk2 := (enL (St.pick 2 sf)).1; have lT2 := run_loadG agg_en (vs := e.cells) rfl (St.pick 2 sf).rowAll; have lU2 := run_loadG agg_en (vs := x.cells) rfl (St.pick 1 sf).rowAll)
    | (go_at_call 139; refine aged_c HG0.out sf ?_; rintro wg sg; rw [HG.out])
    | (refine wpl_storeA (vs := g.cells) rfl (.tmp 3) (.tmp 110) (by rfl) agg_en (by rfl) (by rfl) rfl (env_one _) (St.pick 2 sg) rfl ?_; rintro wh sh; have lg := run_loadG agg_en (vs := g.cells) rfl sh.rowAll)
    | (go_at_call 98; refine set_c HQO.out (St.pick 1 sh) ?_; rintro wi si; rw [HZ.out])
    | (refine wpl_build rfl rfl (v := .agg EnV.zero.cells.toArray) (by kernel_rfl) ?_)
    | (refine wpl_storeA (vs := EnV.zero.cells) rfl (.tmp 5) (.tmp 116) (by rfl) agg_en (by rfl) (by rfl) rfl (env_one _) (St.pick 3 si) rfl ?_; rintro wz sz))
  have hL := run_loadA agg_en (vs := EnV.zero.cells) rfl sz.rowAll
  exact bodyPost_ret (v := .tuple #[.int .i64 0, .agg (EnV.zero.cells).toArray, .int .i64 z]) (by simp [results, Tryz.results90, asAddr, hL]) rfl (HK3.out _ ((sz.perm [0, 1, 1]).dropN 3))

attribute [local go_sem ↓] execOp_stE in
set_option maxRecDepth 100000 in
set_option maxHeartbeats 8000000 in
theorem merge_bad_true {e x : EnV} {q : RepV} (h : RepOK r) (hc : checkE e = 0) (hq : r.see e.ac e.az = q) (hx : tget q.tab e.key = x) (hb : thas q.tab e.key = true) (hn : newerB e x = true) (hp : (e.dead && (decide (0 < q.t1) && decide (q.t1 - 1 ≤ e.age))) = false) (hr : q.roomB e.key = true) (ho : q.overB e = false) (hs : ¬ q.setW (q.aged e x) = 0) (st : St W w (RepA A r :: R))
    (K : ∀ w', St W w' (RepA A (q.set (q.aged e x)) :: R) → post (.returned (.tuple #[.int .i64 0, .agg EnV.zero.cells.toArray, .int .i64 (q.setW (q.aged e x))])) w') :
    Calls Tryz.prog 90 #[.pointer (some ⟨A.p, 0, none⟩), .agg e.cells.toArray] w post := by
  have HK := hid K; clear K
  have hqo : RepOK q := by rw [← hq]; exact h.see _ _
  have HQO := hid hqo; have HQ := hid hq; have HB := hid hb; have HE := hid hx; have HC := hid hc
  have HL : Hid (q.tab.length ≤ 4096) := hid (by have := hqo.len; have := hqo.room; omega)
  have HN := hid hn
  clear hn
  have hw : IntKind.i64.wrap (q.t1 - 1) = q.t1 - 1 := IntWalk.i64_in _ (by have := hqo.t1; omega)
  have HRM := hid hr
  have HOV : Hid ((thas q.gr e.key && decide (0 < cmpS (tget q.gr e.key).sc (tget q.gr e.key).ss e.sc e.ss)) = false) := hid ho
  clear hr ho
  have HG0 : Hid (e.dead = true → 0 ≤ e.age ∧ e.age ≤ 2147483647) := hid (dead_age hc)
  obtain ⟨g, hg⟩ : ∃ g, q.aged e x = g := ⟨_, rfl⟩
  have HG := hid hg
  obtain ⟨z, hz⟩ : ∃ z, q.setW g = z := ⟨_, rfl⟩
  rw [hg, hz] at hs
  have h2 : (z != 0) = true := by simp [hs]
  have HK2 := HK.out
  rw [hg, hz] at HK2
  have HK3 := hid HK2
  have HZ := hid hz
  clear hg hz hs HK2 HK
  obtain ⟨d, hd⟩ : ∃ d, e.dead = d := ⟨_, rfl⟩
  obtain ⟨t, ht⟩ : ∃ t, decide (0 < q.t1) = t := ⟨_, rfl⟩
  obtain ⟨a, ha⟩ : ∃ a, decide (q.t1 - 1 ≤ e.age) = a := ⟨_, rfl⟩
  rw [hd, ht, ha] at hp
  have HPP := hid hp; have HD := hid hd
  clear hp hd
  clear hqo hq hb hx hc h
  go_enter Tryz.func90, Tryz.ntmps90
  go_wp2_with (first
    | (refine wpl_boxA (vs := e.cells) rfl (.tmp 1) rfl rfl st ?_; rintro T w1 s1)
    | (refine wpl_allocA rfl rfl zero_en s1 ?_; rintro V w2 s2; have s3 : St W w2 (RepA A r :: row T 0 e.cells :: row V 0 EnV.zero.cells :: R) := s2.perm [2, 1]; have gT := run_loadG agg_en (vs := e.cells) rfl (St.pick 1 s3).rowAll)
    | (go_at_call 50; refine check_c s3 ?_; rintro w4 s4; rw [HC.out]))
  try simp only [Act.put, List.setIfInBounds_toArray, List.set_cons_succ, List.set_cons_zero]
  have hN_s5 : Nonempty (Cls (fun w' => St W w' (RepA A r :: row T 0 e.cells :: row V 0 EnV.zero.cells :: R))) := Cls.inh s4
  have f5_s5 := fun s : Cls (fun w' => St W w' (RepA A r :: row T 0 e.cells :: row V 0 EnV.zero.cells :: R)) => (repLd s.h).1
  have gA_s5 := fun s : Cls (fun w' => St W w' (RepA A r :: row T 0 e.cells :: row V 0 EnV.zero.cells :: R)) => (enL (St.pick 1 s.h)).2.2.2.2.1
  refine wp_region_class_tail (fun w' => St W w' (RepA A r :: row T 0 e.cells :: row V 0 EnV.zero.cells :: R)) 6 (by kernel_rfl) (by kernel_rfl) (St.drew s4) ?_
  simp only [List.take_succ_cons, List.take_zero, List.drop_succ_cons, List.drop_zero]
  repeat (go_big_quiet_step ((fail)))
  clear hN_s5 f5_s5 gA_s5
  refine wpQuiet_nil ?_
  rintro ⟨w5, s5⟩
  dsimp only
  go_upto_region 5 with (go_at_call 116; refine see_c (St.pick 1 (RepA.open.1 s5)) ?_; rintro w6 s6; have s7 : St W w6 (RepA A q :: row T 0 e.cells :: row V 0 EnV.zero.cells :: R) := (by rw [← HQ.out]; exact see_open (s6.perm [1])))
  go_cut [8, 9] (fun p v wx => ∃ U, p = .pointer (some ⟨U, 0, none⟩) ∧ v = .bool true ∧ St W wx (RepA A q :: row U 0 x.cells :: row T 0 e.cells :: row V 0 EnV.zero.cells :: R))
  case first =>
    have u : St W w6.drew (RepA A q :: row T 0 e.cells :: row V 0 EnV.zero.cells :: R) := s7.drew
    have gA := And.intro (repLd u).2.1 (enL (St.pick 1 u)).1
    have u2 := (s7.alloc EnV.zero.cells.toArray 67).drew
    have gB := And.intro (repLd (St.pick 1 u2)).2.1 (enL (St.pick 2 u2)).1
    have gz := zero_en
    have hone : oneG x.cells 9 := ⟨rfl, env_one _⟩
    go_region_held3 (fun w' => (loadG 110 (.pointer (some ⟨A.p, 7, none⟩))).run Tryz.prog w' = .ok (.pointer (some ⟨A.tb, 0, none⟩)) w' ∧ (loadG 9 (.pointer (some ⟨T, 0, none⟩))).run Tryz.prog w' = .ok (.string e.key) w')
      (first
        | with_reducible exact gE
        | with_reducible exact gD
        | with_reducible exact gC
        | with_reducible exact gB
        | with_reducible exact gA)
      (first
        | (go_at_call 44; first
            | (refine getE_c HQO.out.tab HL.out (St.pick 2 (RepA.open.1 u)) ?_; rintro w5 t5; rw [HB.out, HE.out]; have s5 : St W w5 (RepA A q :: row T 0 e.cells :: row V 0 EnV.zero.cells :: R) := RepA.open.2 (t5.perm [1, 1]); have gC := And.intro (repLd s5).2.1 (enL (St.pick 1 s5)).1; have u5 := s5.alloc EnV.zero.cells.toArray 67; have gD := And.intro (repLd (St.pick 1 u5)).2.1 (enL (St.pick 2 u5)).1; have rB := run_storeG agg_en (b := w5.heap.size) (o := 0) (u5.roomG rfl) hone; have u6 := u5.setAll (vs := x.cells) rfl; have gE := And.intro (repLd (St.pick 1 u6)).2.1 (enL (St.pick 2 u6)).1)
            | (refine getE_c HQO.out.tab HL.out (St.pick 2 (RepA.open.1 (St.pick 1 u2))) ?_; rintro w5 t5; rw [HB.out, HE.out]; have s5 : St W w5 (row w6.heap.size 0 EnV.zero.cells :: RepA A q :: row T 0 e.cells :: row V 0 EnV.zero.cells :: R) := St.pick 1 (RepA.open.2 (t5.perm [1, 1])); have gC := And.intro (repLd (St.pick 1 s5)).2.1 (enL (St.pick 2 s5)).1; have rB := run_storeG agg_en (b := w6.heap.size) (o := 0) (s5.roomG rfl) hone; have u6 := s5.setAll (vs := x.cells) rfl; have gE := And.intro (repLd (St.pick 1 u6)).2.1 (enL (St.pick 2 u6)).1)))
    all_goals
      go_wp2_with fail
      go_meet
      case rel => exact ⟨_, rfl, rfl, St.pick 1 u6⟩
  case rest =>
  obtain ⟨U, rfl, rfl, s8⟩ := hcut
  have lT := run_loadG agg_en (vs := e.cells) rfl (St.pick 2 s8).rowAll
  have lU := run_loadG agg_en (vs := x.cells) rfl (St.pick 1 s8).rowAll
  go_upto_region 11 with (go_at_call 119; refine newer_c s8 ?_; rintro w9 s9; rw [HN.out])
  go_cut [63] (fun v wx => v = .bool false ∧ St W wx (RepA A q :: row U 0 x.cells :: row T 0 e.cells :: row V 0 EnV.zero.cells :: R))
  case first =>
    cases d with
    | false =>
      try simp only [Act.put, List.setIfInBounds_toArray, List.set_cons_succ, List.set_cons_zero]
      have hN : Nonempty (Cls (fun w' => St W w' (RepA A q :: row U 0 x.cells :: row T 0 e.cells :: row V 0 EnV.zero.cells :: R))) := Cls.inh s9
      have fd := fun s : Cls (fun w' => St W w' (RepA A q :: row U 0 x.cells :: row T 0 e.cells :: row V 0 EnV.zero.cells :: R)) => (by have := (enL (St.pick 2 s.h)).2.2.1; rw [HD.out] at this; exact this : (loadG 4 (.pointer (some ⟨T, 2, none⟩))).run Tryz.prog s.w = .ok (.bool false) s.w)
      have ft := fun s : Cls (fun w' => St W w' (RepA A q :: row U 0 x.cells :: row T 0 e.cells :: row V 0 EnV.zero.cells :: R)) => repT1 s.h
      have fa := fun s : Cls (fun w' => St W w' (RepA A q :: row U 0 x.cells :: row T 0 e.cells :: row V 0 EnV.zero.cells :: R)) => (enL (St.pick 2 s.h)).2.2.2.2.2.2.1
      refine wp_region_class (fun w' => St W w' (RepA A q :: row U 0 x.cells :: row T 0 e.cells :: row V 0 EnV.zero.cells :: R)) (by kernel_rfl) (by kernel_rfl) s9.drew ?_
      repeat (go_big_quiet_step (fail))
      clear hN fd ft fa
      refine wpQuiet_nil ?_
      rintro ⟨wb, sb⟩
      dsimp only
      go_wp2_with fail
      go_meet
      case rel => exact ⟨rfl, sb⟩
    | true =>
      cases t with
      | false =>
        try simp only [Act.put, List.setIfInBounds_toArray, List.set_cons_succ, List.set_cons_zero]
        have hN : Nonempty (Cls (fun w' => St W w' (RepA A q :: row U 0 x.cells :: row T 0 e.cells :: row V 0 EnV.zero.cells :: R))) := Cls.inh s9
        have fd := fun s : Cls (fun w' => St W w' (RepA A q :: row U 0 x.cells :: row T 0 e.cells :: row V 0 EnV.zero.cells :: R)) => (by have := (enL (St.pick 2 s.h)).2.2.1; rw [HD.out] at this; exact this : (loadG 4 (.pointer (some ⟨T, 2, none⟩))).run Tryz.prog s.w = .ok (.bool true) s.w)
        have ft := fun s : Cls (fun w' => St W w' (RepA A q :: row U 0 x.cells :: row T 0 e.cells :: row V 0 EnV.zero.cells :: R)) => repT1 s.h
        have fa := fun s : Cls (fun w' => St W w' (RepA A q :: row U 0 x.cells :: row T 0 e.cells :: row V 0 EnV.zero.cells :: R)) => (enL (St.pick 2 s.h)).2.2.2.2.2.2.1
        refine wp_region_class (fun w' => St W w' (RepA A q :: row U 0 x.cells :: row T 0 e.cells :: row V 0 EnV.zero.cells :: R)) (by kernel_rfl) (by kernel_rfl) s9.drew ?_
        repeat (go_big_quiet_step (fail))
        clear hN fd ft fa
        refine wpQuiet_nil ?_
        rintro ⟨wb, sb⟩
        dsimp only
        go_wp2_with fail
        go_meet
        case rel => exact ⟨rfl, sb⟩
      | true =>
        have hz : a = false := by have := HPP.out; simpa using this
        subst hz
        try simp only [Act.put, List.setIfInBounds_toArray, List.set_cons_succ, List.set_cons_zero]
        have hN : Nonempty (Cls (fun w' => St W w' (RepA A q :: row U 0 x.cells :: row T 0 e.cells :: row V 0 EnV.zero.cells :: R))) := Cls.inh s9
        have fd := fun s : Cls (fun w' => St W w' (RepA A q :: row U 0 x.cells :: row T 0 e.cells :: row V 0 EnV.zero.cells :: R)) => (by have := (enL (St.pick 2 s.h)).2.2.1; rw [HD.out] at this; exact this : (loadG 4 (.pointer (some ⟨T, 2, none⟩))).run Tryz.prog s.w = .ok (.bool true) s.w)
        have ft := fun s : Cls (fun w' => St W w' (RepA A q :: row U 0 x.cells :: row T 0 e.cells :: row V 0 EnV.zero.cells :: R)) => repT1 s.h
        have fa := fun s : Cls (fun w' => St W w' (RepA A q :: row U 0 x.cells :: row T 0 e.cells :: row V 0 EnV.zero.cells :: R)) => (enL (St.pick 2 s.h)).2.2.2.2.2.2.1
        refine wp_region_class (fun w' => St W w' (RepA A q :: row U 0 x.cells :: row T 0 e.cells :: row V 0 EnV.zero.cells :: R)) (by kernel_rfl) (by kernel_rfl) s9.drew ?_
        repeat (go_big_quiet_step (fail))
        clear hN fd ft fa
        refine wpQuiet_nil ?_
        rintro ⟨wb, sb⟩
        dsimp only
        go_wp2_with fail
        go_meet
        case rel => exact ⟨rfl, sb⟩
  case rest =>
  obtain ⟨rfl, sb⟩ := hcut
  have lk := (enL (St.pick 2 sb)).1
  go_wp2_with (go_at_call 96; refine room_c HQO.out sb ?_; rintro wc sc; rw [HRM.out])
  try simp only [Act.put, List.setIfInBounds_toArray, List.set_cons_succ, List.set_cons_zero]
  have hN_sd : Nonempty (Cls (fun w' => St W w' (RepA A q :: row U 0 x.cells :: row T 0 e.cells :: row V 0 EnV.zero.cells :: R))) := Cls.inh sc
  have f10_sd := fun s : Cls (fun w' => St W w' (RepA A q :: row U 0 x.cells :: row T 0 e.cells :: row V 0 EnV.zero.cells :: R)) => (repLd s.h).2.2.2.2.1
  have gT_sd := fun s : Cls (fun w' => St W w' (RepA A q :: row U 0 x.cells :: row T 0 e.cells :: row V 0 EnV.zero.cells :: R)) => run_loadG agg_en (vs := e.cells) rfl (St.pick 2 s.h).rowAll
  refine wp_region_class_tail (fun w' => St W w' (RepA A q :: row U 0 x.cells :: row T 0 e.cells :: row V 0 EnV.zero.cells :: R)) 5 (by kernel_rfl) (by kernel_rfl) (St.drew sc) ?_
  simp only [List.take_succ_cons, List.take_zero, List.drop_succ_cons, List.drop_zero]
  repeat (go_big_quiet_step ((fail)))
  clear hN_sd f10_sd gT_sd
  refine wpQuiet_nil ?_
  rintro ⟨wd, sd⟩
  dsimp only
  go_wp2_with (first
    | (go_at_call 141; refine over_c HQO.out.gr HQO.out.grL ((RepA.open.1 sd).perm [5, 5]) ?_; rintro we se; rw [HOV.out]; have sf : St W we (RepA A q :: row U 0 x.cells :: row T 0 e.cells :: row V 0 EnV.zero.cells :: R) := RepA.open.2 (se.perm [2, 2, 2, 2, 2, 0, 0]); have lk2 := (enL (St.pick 2 sf)).1; have lT2 := run_loadG agg_en (vs := e.cells) rfl (St.pick 2 sf).rowAll; have lU2 := run_loadG agg_en (vs := x.cells) rfl (St.pick 1 sf).rowAll)
    | (go_at_call 139; refine aged_c HG0.out sf ?_; rintro wg sg; rw [HG.out])
    | (refine wpl_storeA (vs := g.cells) rfl (.tmp 3) (.tmp 110) (by rfl) agg_en (by rfl) (by rfl) rfl (env_one _) (St.pick 2 sg) rfl ?_; rintro wh sh; have lg := run_loadG agg_en (vs := g.cells) rfl sh.rowAll)
    | (go_at_call 98; refine set_c HQO.out (St.pick 1 sh) ?_; rintro wi si; rw [HZ.out])
    | (refine wpl_build rfl rfl (v := .agg EnV.zero.cells.toArray) (by kernel_rfl) ?_)
    | (refine wpl_storeA (vs := EnV.zero.cells) rfl (.tmp 5) (.tmp 116) (by rfl) agg_en (by rfl) (by rfl) rfl (env_one _) (St.pick 3 si) rfl ?_; rintro wz sz))
  have hL := run_loadA agg_en (vs := EnV.zero.cells) rfl sz.rowAll
  exact bodyPost_ret (v := .tuple #[.int .i64 0, .agg (EnV.zero.cells).toArray, .int .i64 z]) (by simp [results, Tryz.results90, asAddr, hL]) rfl (HK3.out _ ((sz.perm [0, 1, 1]).dropN 3))

attribute [local go_sem ↓] execOp_stE in
set_option maxRecDepth 100000 in
set_option maxHeartbeats 8000000 in
theorem merge_took_false {e x : EnV} {q : RepV} (h : RepOK r) (hc : checkE e = 0) (hq : r.see e.ac e.az = q) (hx : tget q.tab e.key = x) (hb : thas q.tab e.key = false)  (hp : (e.dead && (decide (0 < q.t1) && decide (q.t1 - 1 ≤ e.age))) = false) (hr : q.roomB e.key = true) (ho : q.overB e = false) (hs : q.setW (q.aged e x) = 0) (st : St W w (RepA A r :: R))
    (K : ∀ w', St W w' (RepA A (q.set (q.aged e x)) :: R) → post (.returned (.tuple #[.int .i64 1, .agg (q.aged e x).cells.toArray, .int .i64 0])) w') :
    Calls Tryz.prog 90 #[.pointer (some ⟨A.p, 0, none⟩), .agg e.cells.toArray] w post := by
  have HK := hid K; clear K
  have hqo : RepOK q := by rw [← hq]; exact h.see _ _
  have HQO := hid hqo; have HQ := hid hq; have HB := hid hb; have HE := hid hx; have HC := hid hc
  have HL : Hid (q.tab.length ≤ 4096) := hid (by have := hqo.len; have := hqo.room; omega)
  have hw : IntKind.i64.wrap (q.t1 - 1) = q.t1 - 1 := IntWalk.i64_in _ (by have := hqo.t1; omega)
  have HRM := hid hr
  have HOV : Hid ((thas q.gr e.key && decide (0 < cmpS (tget q.gr e.key).sc (tget q.gr e.key).ss e.sc e.ss)) = false) := hid ho
  clear hr ho
  have HG0 : Hid (e.dead = true → 0 ≤ e.age ∧ e.age ≤ 2147483647) := hid (dead_age hc)
  obtain ⟨g, hg⟩ : ∃ g, q.aged e x = g := ⟨_, rfl⟩
  have HG := hid hg
  rw [hg] at hs
  have HK2 := HK.out
  rw [hg] at HK2
  have HK3 := hid HK2
  have HZ := hid hs
  clear hg hs HK2 HK
  obtain ⟨d, hd⟩ : ∃ d, e.dead = d := ⟨_, rfl⟩
  obtain ⟨t, ht⟩ : ∃ t, decide (0 < q.t1) = t := ⟨_, rfl⟩
  obtain ⟨a, ha⟩ : ∃ a, decide (q.t1 - 1 ≤ e.age) = a := ⟨_, rfl⟩
  rw [hd, ht, ha] at hp
  have HPP := hid hp; have HD := hid hd
  clear hp hd
  clear hqo hq hb hx hc h
  go_enter Tryz.func90, Tryz.ntmps90
  go_wp2_with (first
    | (refine wpl_boxA (vs := e.cells) rfl (.tmp 1) rfl rfl st ?_; rintro T w1 s1)
    | (refine wpl_allocA rfl rfl zero_en s1 ?_; rintro V w2 s2; have s3 : St W w2 (RepA A r :: row T 0 e.cells :: row V 0 EnV.zero.cells :: R) := s2.perm [2, 1]; have gT := run_loadG agg_en (vs := e.cells) rfl (St.pick 1 s3).rowAll)
    | (go_at_call 50; refine check_c s3 ?_; rintro w4 s4; rw [HC.out]))
  try simp only [Act.put, List.setIfInBounds_toArray, List.set_cons_succ, List.set_cons_zero]
  have hN_s5 : Nonempty (Cls (fun w' => St W w' (RepA A r :: row T 0 e.cells :: row V 0 EnV.zero.cells :: R))) := Cls.inh s4
  have f5_s5 := fun s : Cls (fun w' => St W w' (RepA A r :: row T 0 e.cells :: row V 0 EnV.zero.cells :: R)) => (repLd s.h).1
  have gA_s5 := fun s : Cls (fun w' => St W w' (RepA A r :: row T 0 e.cells :: row V 0 EnV.zero.cells :: R)) => (enL (St.pick 1 s.h)).2.2.2.2.1
  refine wp_region_class_tail (fun w' => St W w' (RepA A r :: row T 0 e.cells :: row V 0 EnV.zero.cells :: R)) 6 (by kernel_rfl) (by kernel_rfl) (St.drew s4) ?_
  simp only [List.take_succ_cons, List.take_zero, List.drop_succ_cons, List.drop_zero]
  repeat (go_big_quiet_step ((fail)))
  clear hN_s5 f5_s5 gA_s5
  refine wpQuiet_nil ?_
  rintro ⟨w5, s5⟩
  dsimp only
  go_upto_region 5 with (go_at_call 116; refine see_c (St.pick 1 (RepA.open.1 s5)) ?_; rintro w6 s6; have s7 : St W w6 (RepA A q :: row T 0 e.cells :: row V 0 EnV.zero.cells :: R) := (by rw [← HQ.out]; exact see_open (s6.perm [1])))
  go_cut [8, 9] (fun p v wx => ∃ U, p = .pointer (some ⟨U, 0, none⟩) ∧ v = .bool false ∧ St W wx (RepA A q :: row U 0 x.cells :: row T 0 e.cells :: row V 0 EnV.zero.cells :: R))
  case first =>
    have u : St W w6.drew (RepA A q :: row T 0 e.cells :: row V 0 EnV.zero.cells :: R) := s7.drew
    have gA := And.intro (repLd u).2.1 (enL (St.pick 1 u)).1
    have u2 := (s7.alloc EnV.zero.cells.toArray 67).drew
    have gB := And.intro (repLd (St.pick 1 u2)).2.1 (enL (St.pick 2 u2)).1
    have gz := zero_en
    have hone : oneG x.cells 9 := ⟨rfl, env_one _⟩
    go_region_held3 (fun w' => (loadG 110 (.pointer (some ⟨A.p, 7, none⟩))).run Tryz.prog w' = .ok (.pointer (some ⟨A.tb, 0, none⟩)) w' ∧ (loadG 9 (.pointer (some ⟨T, 0, none⟩))).run Tryz.prog w' = .ok (.string e.key) w')
      (first
        | with_reducible exact gE
        | with_reducible exact gD
        | with_reducible exact gC
        | with_reducible exact gB
        | with_reducible exact gA)
      (first
        | (go_at_call 44; first
            | (refine getE_c HQO.out.tab HL.out (St.pick 2 (RepA.open.1 u)) ?_; rintro w5 t5; rw [HB.out, HE.out]; have s5 : St W w5 (RepA A q :: row T 0 e.cells :: row V 0 EnV.zero.cells :: R) := RepA.open.2 (t5.perm [1, 1]); have gC := And.intro (repLd s5).2.1 (enL (St.pick 1 s5)).1; have u5 := s5.alloc EnV.zero.cells.toArray 67; have gD := And.intro (repLd (St.pick 1 u5)).2.1 (enL (St.pick 2 u5)).1; have rB := run_storeG agg_en (b := w5.heap.size) (o := 0) (u5.roomG rfl) hone; have u6 := u5.setAll (vs := x.cells) rfl; have gE := And.intro (repLd (St.pick 1 u6)).2.1 (enL (St.pick 2 u6)).1)
            | (refine getE_c HQO.out.tab HL.out (St.pick 2 (RepA.open.1 (St.pick 1 u2))) ?_; rintro w5 t5; rw [HB.out, HE.out]; have s5 : St W w5 (row w6.heap.size 0 EnV.zero.cells :: RepA A q :: row T 0 e.cells :: row V 0 EnV.zero.cells :: R) := St.pick 1 (RepA.open.2 (t5.perm [1, 1])); have gC := And.intro (repLd (St.pick 1 s5)).2.1 (enL (St.pick 2 s5)).1; have rB := run_storeG agg_en (b := w6.heap.size) (o := 0) (s5.roomG rfl) hone; have u6 := s5.setAll (vs := x.cells) rfl; have gE := And.intro (repLd (St.pick 1 u6)).2.1 (enL (St.pick 2 u6)).1)))
    all_goals
      go_wp2_with fail
      go_meet
      case rel => exact ⟨_, rfl, rfl, St.pick 1 u6⟩
  case rest =>
  obtain ⟨U, rfl, rfl, s8⟩ := hcut
  have s9 := s8
  go_upto_region 11 with (fail)
  go_cut [63] (fun v wx => v = .bool false ∧ St W wx (RepA A q :: row U 0 x.cells :: row T 0 e.cells :: row V 0 EnV.zero.cells :: R))
  case first =>
    cases d with
    | false =>
      try simp only [Act.put, List.setIfInBounds_toArray, List.set_cons_succ, List.set_cons_zero]
      have hN : Nonempty (Cls (fun w' => St W w' (RepA A q :: row U 0 x.cells :: row T 0 e.cells :: row V 0 EnV.zero.cells :: R))) := Cls.inh s9
      have fd := fun s : Cls (fun w' => St W w' (RepA A q :: row U 0 x.cells :: row T 0 e.cells :: row V 0 EnV.zero.cells :: R)) => (by have := (enL (St.pick 2 s.h)).2.2.1; rw [HD.out] at this; exact this : (loadG 4 (.pointer (some ⟨T, 2, none⟩))).run Tryz.prog s.w = .ok (.bool false) s.w)
      have ft := fun s : Cls (fun w' => St W w' (RepA A q :: row U 0 x.cells :: row T 0 e.cells :: row V 0 EnV.zero.cells :: R)) => repT1 s.h
      have fa := fun s : Cls (fun w' => St W w' (RepA A q :: row U 0 x.cells :: row T 0 e.cells :: row V 0 EnV.zero.cells :: R)) => (enL (St.pick 2 s.h)).2.2.2.2.2.2.1
      refine wp_region_class (fun w' => St W w' (RepA A q :: row U 0 x.cells :: row T 0 e.cells :: row V 0 EnV.zero.cells :: R)) (by kernel_rfl) (by kernel_rfl) s9.drew ?_
      repeat (go_big_quiet_step (fail))
      clear hN fd ft fa
      refine wpQuiet_nil ?_
      rintro ⟨wb, sb⟩
      dsimp only
      go_wp2_with fail
      go_meet
      case rel => exact ⟨rfl, sb⟩
    | true =>
      cases t with
      | false =>
        try simp only [Act.put, List.setIfInBounds_toArray, List.set_cons_succ, List.set_cons_zero]
        have hN : Nonempty (Cls (fun w' => St W w' (RepA A q :: row U 0 x.cells :: row T 0 e.cells :: row V 0 EnV.zero.cells :: R))) := Cls.inh s9
        have fd := fun s : Cls (fun w' => St W w' (RepA A q :: row U 0 x.cells :: row T 0 e.cells :: row V 0 EnV.zero.cells :: R)) => (by have := (enL (St.pick 2 s.h)).2.2.1; rw [HD.out] at this; exact this : (loadG 4 (.pointer (some ⟨T, 2, none⟩))).run Tryz.prog s.w = .ok (.bool true) s.w)
        have ft := fun s : Cls (fun w' => St W w' (RepA A q :: row U 0 x.cells :: row T 0 e.cells :: row V 0 EnV.zero.cells :: R)) => repT1 s.h
        have fa := fun s : Cls (fun w' => St W w' (RepA A q :: row U 0 x.cells :: row T 0 e.cells :: row V 0 EnV.zero.cells :: R)) => (enL (St.pick 2 s.h)).2.2.2.2.2.2.1
        refine wp_region_class (fun w' => St W w' (RepA A q :: row U 0 x.cells :: row T 0 e.cells :: row V 0 EnV.zero.cells :: R)) (by kernel_rfl) (by kernel_rfl) s9.drew ?_
        repeat (go_big_quiet_step (fail))
        clear hN fd ft fa
        refine wpQuiet_nil ?_
        rintro ⟨wb, sb⟩
        dsimp only
        go_wp2_with fail
        go_meet
        case rel => exact ⟨rfl, sb⟩
      | true =>
        have hz : a = false := by have := HPP.out; simpa using this
        subst hz
        try simp only [Act.put, List.setIfInBounds_toArray, List.set_cons_succ, List.set_cons_zero]
        have hN : Nonempty (Cls (fun w' => St W w' (RepA A q :: row U 0 x.cells :: row T 0 e.cells :: row V 0 EnV.zero.cells :: R))) := Cls.inh s9
        have fd := fun s : Cls (fun w' => St W w' (RepA A q :: row U 0 x.cells :: row T 0 e.cells :: row V 0 EnV.zero.cells :: R)) => (by have := (enL (St.pick 2 s.h)).2.2.1; rw [HD.out] at this; exact this : (loadG 4 (.pointer (some ⟨T, 2, none⟩))).run Tryz.prog s.w = .ok (.bool true) s.w)
        have ft := fun s : Cls (fun w' => St W w' (RepA A q :: row U 0 x.cells :: row T 0 e.cells :: row V 0 EnV.zero.cells :: R)) => repT1 s.h
        have fa := fun s : Cls (fun w' => St W w' (RepA A q :: row U 0 x.cells :: row T 0 e.cells :: row V 0 EnV.zero.cells :: R)) => (enL (St.pick 2 s.h)).2.2.2.2.2.2.1
        refine wp_region_class (fun w' => St W w' (RepA A q :: row U 0 x.cells :: row T 0 e.cells :: row V 0 EnV.zero.cells :: R)) (by kernel_rfl) (by kernel_rfl) s9.drew ?_
        repeat (go_big_quiet_step (fail))
        clear hN fd ft fa
        refine wpQuiet_nil ?_
        rintro ⟨wb, sb⟩
        dsimp only
        go_wp2_with fail
        go_meet
        case rel => exact ⟨rfl, sb⟩
  case rest =>
  obtain ⟨rfl, sb⟩ := hcut
  have lk := (enL (St.pick 2 sb)).1
  go_wp2_with (go_at_call 96; refine room_c HQO.out sb ?_; rintro wc sc; rw [HRM.out])
  try simp only [Act.put, List.setIfInBounds_toArray, List.set_cons_succ, List.set_cons_zero]
  have hN_sd : Nonempty (Cls (fun w' => St W w' (RepA A q :: row U 0 x.cells :: row T 0 e.cells :: row V 0 EnV.zero.cells :: R))) := Cls.inh sc
  have f10_sd := fun s : Cls (fun w' => St W w' (RepA A q :: row U 0 x.cells :: row T 0 e.cells :: row V 0 EnV.zero.cells :: R)) => (repLd s.h).2.2.2.2.1
  have gT_sd := fun s : Cls (fun w' => St W w' (RepA A q :: row U 0 x.cells :: row T 0 e.cells :: row V 0 EnV.zero.cells :: R)) => run_loadG agg_en (vs := e.cells) rfl (St.pick 2 s.h).rowAll
  refine wp_region_class_tail (fun w' => St W w' (RepA A q :: row U 0 x.cells :: row T 0 e.cells :: row V 0 EnV.zero.cells :: R)) 5 (by kernel_rfl) (by kernel_rfl) (St.drew sc) ?_
  simp only [List.take_succ_cons, List.take_zero, List.drop_succ_cons, List.drop_zero]
  repeat (go_big_quiet_step ((fail)))
  clear hN_sd f10_sd gT_sd
  refine wpQuiet_nil ?_
  rintro ⟨wd, sd⟩
  dsimp only
  go_wp2_with (first
    | (go_at_call 141; refine over_c HQO.out.gr HQO.out.grL ((RepA.open.1 sd).perm [5, 5]) ?_; rintro we se; rw [HOV.out]; have sf : St W we (RepA A q :: row U 0 x.cells :: row T 0 e.cells :: row V 0 EnV.zero.cells :: R) := RepA.open.2 (se.perm [2, 2, 2, 2, 2, 0, 0]); have lk2 := (enL (St.pick 2 sf)).1; have lT2 := run_loadG agg_en (vs := e.cells) rfl (St.pick 2 sf).rowAll; have lU2 := run_loadG agg_en (vs := x.cells) rfl (St.pick 1 sf).rowAll)
    | (go_at_call 139; refine aged_c HG0.out sf ?_; rintro wg sg; rw [HG.out])
    | (refine wpl_storeA (vs := g.cells) rfl (.tmp 3) (.tmp 110) (by rfl) agg_en (by rfl) (by rfl) rfl (env_one _) (St.pick 2 sg) rfl ?_; rintro wh sh; have lg := run_loadG agg_en (vs := g.cells) rfl sh.rowAll)
    | (go_at_call 98; refine set_c HQO.out (St.pick 1 sh) ?_; rintro wi si; rw [HZ.out]))
  have sy := si.drew
  have gM := run_loadG agg_en (vs := g.cells) rfl (St.pick 1 sy).rowAll
  have rS := run_storeG agg_en (b := V) (o := 0) ((St.pick 3 sy).roomG rfl) (⟨rfl, env_one g⟩ : oneG g.cells 9)
  have sz := (St.pick 3 sy).setAll (vs := g.cells) rfl
  have hL := run_loadA agg_en (vs := g.cells) rfl sz.rowAll
  go_region_law (fail)
  all_goals
    go_wp2_with fail
    exact bodyPost_ret (v := .tuple #[.int .i64 1, .agg g.cells.toArray, .int .i64 0]) (by simp [results, Tryz.results90, asAddr, hL, Act.put]) rfl (HK3.out _ ((sz.perm [0, 1, 1]).dropN 3))

attribute [local go_sem ↓] execOp_stE in
set_option maxRecDepth 100000 in
set_option maxHeartbeats 8000000 in
theorem merge_took_true {e x : EnV} {q : RepV} (h : RepOK r) (hc : checkE e = 0) (hq : r.see e.ac e.az = q) (hx : tget q.tab e.key = x) (hb : thas q.tab e.key = true) (hn : newerB e x = true) (hp : (e.dead && (decide (0 < q.t1) && decide (q.t1 - 1 ≤ e.age))) = false) (hr : q.roomB e.key = true) (ho : q.overB e = false) (hs : q.setW (q.aged e x) = 0) (st : St W w (RepA A r :: R))
    (K : ∀ w', St W w' (RepA A (q.set (q.aged e x)) :: R) → post (.returned (.tuple #[.int .i64 1, .agg (q.aged e x).cells.toArray, .int .i64 0])) w') :
    Calls Tryz.prog 90 #[.pointer (some ⟨A.p, 0, none⟩), .agg e.cells.toArray] w post := by
  have HK := hid K; clear K
  have hqo : RepOK q := by rw [← hq]; exact h.see _ _
  have HQO := hid hqo; have HQ := hid hq; have HB := hid hb; have HE := hid hx; have HC := hid hc
  have HL : Hid (q.tab.length ≤ 4096) := hid (by have := hqo.len; have := hqo.room; omega)
  have HN := hid hn
  clear hn
  have hw : IntKind.i64.wrap (q.t1 - 1) = q.t1 - 1 := IntWalk.i64_in _ (by have := hqo.t1; omega)
  have HRM := hid hr
  have HOV : Hid ((thas q.gr e.key && decide (0 < cmpS (tget q.gr e.key).sc (tget q.gr e.key).ss e.sc e.ss)) = false) := hid ho
  clear hr ho
  have HG0 : Hid (e.dead = true → 0 ≤ e.age ∧ e.age ≤ 2147483647) := hid (dead_age hc)
  obtain ⟨g, hg⟩ : ∃ g, q.aged e x = g := ⟨_, rfl⟩
  have HG := hid hg
  rw [hg] at hs
  have HK2 := HK.out
  rw [hg] at HK2
  have HK3 := hid HK2
  have HZ := hid hs
  clear hg hs HK2 HK
  obtain ⟨d, hd⟩ : ∃ d, e.dead = d := ⟨_, rfl⟩
  obtain ⟨t, ht⟩ : ∃ t, decide (0 < q.t1) = t := ⟨_, rfl⟩
  obtain ⟨a, ha⟩ : ∃ a, decide (q.t1 - 1 ≤ e.age) = a := ⟨_, rfl⟩
  rw [hd, ht, ha] at hp
  have HPP := hid hp; have HD := hid hd
  clear hp hd
  clear hqo hq hb hx hc h
  go_enter Tryz.func90, Tryz.ntmps90
  go_wp2_with (first
    | (refine wpl_boxA (vs := e.cells) rfl (.tmp 1) rfl rfl st ?_; rintro T w1 s1)
    | (refine wpl_allocA rfl rfl zero_en s1 ?_; rintro V w2 s2; have s3 : St W w2 (RepA A r :: row T 0 e.cells :: row V 0 EnV.zero.cells :: R) := s2.perm [2, 1]; have gT := run_loadG agg_en (vs := e.cells) rfl (St.pick 1 s3).rowAll)
    | (go_at_call 50; refine check_c s3 ?_; rintro w4 s4; rw [HC.out]))
  try simp only [Act.put, List.setIfInBounds_toArray, List.set_cons_succ, List.set_cons_zero]
  have hN_s5 : Nonempty (Cls (fun w' => St W w' (RepA A r :: row T 0 e.cells :: row V 0 EnV.zero.cells :: R))) := Cls.inh s4
  have f5_s5 := fun s : Cls (fun w' => St W w' (RepA A r :: row T 0 e.cells :: row V 0 EnV.zero.cells :: R)) => (repLd s.h).1
  have gA_s5 := fun s : Cls (fun w' => St W w' (RepA A r :: row T 0 e.cells :: row V 0 EnV.zero.cells :: R)) => (enL (St.pick 1 s.h)).2.2.2.2.1
  refine wp_region_class_tail (fun w' => St W w' (RepA A r :: row T 0 e.cells :: row V 0 EnV.zero.cells :: R)) 6 (by kernel_rfl) (by kernel_rfl) (St.drew s4) ?_
  simp only [List.take_succ_cons, List.take_zero, List.drop_succ_cons, List.drop_zero]
  repeat (go_big_quiet_step ((fail)))
  clear hN_s5 f5_s5 gA_s5
  refine wpQuiet_nil ?_
  rintro ⟨w5, s5⟩
  dsimp only
  go_upto_region 5 with (go_at_call 116; refine see_c (St.pick 1 (RepA.open.1 s5)) ?_; rintro w6 s6; have s7 : St W w6 (RepA A q :: row T 0 e.cells :: row V 0 EnV.zero.cells :: R) := (by rw [← HQ.out]; exact see_open (s6.perm [1])))
  go_cut [8, 9] (fun p v wx => ∃ U, p = .pointer (some ⟨U, 0, none⟩) ∧ v = .bool true ∧ St W wx (RepA A q :: row U 0 x.cells :: row T 0 e.cells :: row V 0 EnV.zero.cells :: R))
  case first =>
    have u : St W w6.drew (RepA A q :: row T 0 e.cells :: row V 0 EnV.zero.cells :: R) := s7.drew
    have gA := And.intro (repLd u).2.1 (enL (St.pick 1 u)).1
    have u2 := (s7.alloc EnV.zero.cells.toArray 67).drew
    have gB := And.intro (repLd (St.pick 1 u2)).2.1 (enL (St.pick 2 u2)).1
    have gz := zero_en
    have hone : oneG x.cells 9 := ⟨rfl, env_one _⟩
    go_region_held3 (fun w' => (loadG 110 (.pointer (some ⟨A.p, 7, none⟩))).run Tryz.prog w' = .ok (.pointer (some ⟨A.tb, 0, none⟩)) w' ∧ (loadG 9 (.pointer (some ⟨T, 0, none⟩))).run Tryz.prog w' = .ok (.string e.key) w')
      (first
        | with_reducible exact gE
        | with_reducible exact gD
        | with_reducible exact gC
        | with_reducible exact gB
        | with_reducible exact gA)
      (first
        | (go_at_call 44; first
            | (refine getE_c HQO.out.tab HL.out (St.pick 2 (RepA.open.1 u)) ?_; rintro w5 t5; rw [HB.out, HE.out]; have s5 : St W w5 (RepA A q :: row T 0 e.cells :: row V 0 EnV.zero.cells :: R) := RepA.open.2 (t5.perm [1, 1]); have gC := And.intro (repLd s5).2.1 (enL (St.pick 1 s5)).1; have u5 := s5.alloc EnV.zero.cells.toArray 67; have gD := And.intro (repLd (St.pick 1 u5)).2.1 (enL (St.pick 2 u5)).1; have rB := run_storeG agg_en (b := w5.heap.size) (o := 0) (u5.roomG rfl) hone; have u6 := u5.setAll (vs := x.cells) rfl; have gE := And.intro (repLd (St.pick 1 u6)).2.1 (enL (St.pick 2 u6)).1)
            | (refine getE_c HQO.out.tab HL.out (St.pick 2 (RepA.open.1 (St.pick 1 u2))) ?_; rintro w5 t5; rw [HB.out, HE.out]; have s5 : St W w5 (row w6.heap.size 0 EnV.zero.cells :: RepA A q :: row T 0 e.cells :: row V 0 EnV.zero.cells :: R) := St.pick 1 (RepA.open.2 (t5.perm [1, 1])); have gC := And.intro (repLd (St.pick 1 s5)).2.1 (enL (St.pick 2 s5)).1; have rB := run_storeG agg_en (b := w6.heap.size) (o := 0) (s5.roomG rfl) hone; have u6 := s5.setAll (vs := x.cells) rfl; have gE := And.intro (repLd (St.pick 1 u6)).2.1 (enL (St.pick 2 u6)).1)))
    all_goals
      go_wp2_with fail
      go_meet
      case rel => exact ⟨_, rfl, rfl, St.pick 1 u6⟩
  case rest =>
  obtain ⟨U, rfl, rfl, s8⟩ := hcut
  have lT := run_loadG agg_en (vs := e.cells) rfl (St.pick 2 s8).rowAll
  have lU := run_loadG agg_en (vs := x.cells) rfl (St.pick 1 s8).rowAll
  go_upto_region 11 with (go_at_call 119; refine newer_c s8 ?_; rintro w9 s9; rw [HN.out])
  go_cut [63] (fun v wx => v = .bool false ∧ St W wx (RepA A q :: row U 0 x.cells :: row T 0 e.cells :: row V 0 EnV.zero.cells :: R))
  case first =>
    cases d with
    | false =>
      try simp only [Act.put, List.setIfInBounds_toArray, List.set_cons_succ, List.set_cons_zero]
      have hN : Nonempty (Cls (fun w' => St W w' (RepA A q :: row U 0 x.cells :: row T 0 e.cells :: row V 0 EnV.zero.cells :: R))) := Cls.inh s9
      have fd := fun s : Cls (fun w' => St W w' (RepA A q :: row U 0 x.cells :: row T 0 e.cells :: row V 0 EnV.zero.cells :: R)) => (by have := (enL (St.pick 2 s.h)).2.2.1; rw [HD.out] at this; exact this : (loadG 4 (.pointer (some ⟨T, 2, none⟩))).run Tryz.prog s.w = .ok (.bool false) s.w)
      have ft := fun s : Cls (fun w' => St W w' (RepA A q :: row U 0 x.cells :: row T 0 e.cells :: row V 0 EnV.zero.cells :: R)) => repT1 s.h
      have fa := fun s : Cls (fun w' => St W w' (RepA A q :: row U 0 x.cells :: row T 0 e.cells :: row V 0 EnV.zero.cells :: R)) => (enL (St.pick 2 s.h)).2.2.2.2.2.2.1
      refine wp_region_class (fun w' => St W w' (RepA A q :: row U 0 x.cells :: row T 0 e.cells :: row V 0 EnV.zero.cells :: R)) (by kernel_rfl) (by kernel_rfl) s9.drew ?_
      repeat (go_big_quiet_step (fail))
      clear hN fd ft fa
      refine wpQuiet_nil ?_
      rintro ⟨wb, sb⟩
      dsimp only
      go_wp2_with fail
      go_meet
      case rel => exact ⟨rfl, sb⟩
    | true =>
      cases t with
      | false =>
        try simp only [Act.put, List.setIfInBounds_toArray, List.set_cons_succ, List.set_cons_zero]
        have hN : Nonempty (Cls (fun w' => St W w' (RepA A q :: row U 0 x.cells :: row T 0 e.cells :: row V 0 EnV.zero.cells :: R))) := Cls.inh s9
        have fd := fun s : Cls (fun w' => St W w' (RepA A q :: row U 0 x.cells :: row T 0 e.cells :: row V 0 EnV.zero.cells :: R)) => (by have := (enL (St.pick 2 s.h)).2.2.1; rw [HD.out] at this; exact this : (loadG 4 (.pointer (some ⟨T, 2, none⟩))).run Tryz.prog s.w = .ok (.bool true) s.w)
        have ft := fun s : Cls (fun w' => St W w' (RepA A q :: row U 0 x.cells :: row T 0 e.cells :: row V 0 EnV.zero.cells :: R)) => repT1 s.h
        have fa := fun s : Cls (fun w' => St W w' (RepA A q :: row U 0 x.cells :: row T 0 e.cells :: row V 0 EnV.zero.cells :: R)) => (enL (St.pick 2 s.h)).2.2.2.2.2.2.1
        refine wp_region_class (fun w' => St W w' (RepA A q :: row U 0 x.cells :: row T 0 e.cells :: row V 0 EnV.zero.cells :: R)) (by kernel_rfl) (by kernel_rfl) s9.drew ?_
        repeat (go_big_quiet_step (fail))
        clear hN fd ft fa
        refine wpQuiet_nil ?_
        rintro ⟨wb, sb⟩
        dsimp only
        go_wp2_with fail
        go_meet
        case rel => exact ⟨rfl, sb⟩
      | true =>
        have hz : a = false := by have := HPP.out; simpa using this
        subst hz
        try simp only [Act.put, List.setIfInBounds_toArray, List.set_cons_succ, List.set_cons_zero]
        have hN : Nonempty (Cls (fun w' => St W w' (RepA A q :: row U 0 x.cells :: row T 0 e.cells :: row V 0 EnV.zero.cells :: R))) := Cls.inh s9
        have fd := fun s : Cls (fun w' => St W w' (RepA A q :: row U 0 x.cells :: row T 0 e.cells :: row V 0 EnV.zero.cells :: R)) => (by have := (enL (St.pick 2 s.h)).2.2.1; rw [HD.out] at this; exact this : (loadG 4 (.pointer (some ⟨T, 2, none⟩))).run Tryz.prog s.w = .ok (.bool true) s.w)
        have ft := fun s : Cls (fun w' => St W w' (RepA A q :: row U 0 x.cells :: row T 0 e.cells :: row V 0 EnV.zero.cells :: R)) => repT1 s.h
        have fa := fun s : Cls (fun w' => St W w' (RepA A q :: row U 0 x.cells :: row T 0 e.cells :: row V 0 EnV.zero.cells :: R)) => (enL (St.pick 2 s.h)).2.2.2.2.2.2.1
        refine wp_region_class (fun w' => St W w' (RepA A q :: row U 0 x.cells :: row T 0 e.cells :: row V 0 EnV.zero.cells :: R)) (by kernel_rfl) (by kernel_rfl) s9.drew ?_
        repeat (go_big_quiet_step (fail))
        clear hN fd ft fa
        refine wpQuiet_nil ?_
        rintro ⟨wb, sb⟩
        dsimp only
        go_wp2_with fail
        go_meet
        case rel => exact ⟨rfl, sb⟩
  case rest =>
  obtain ⟨rfl, sb⟩ := hcut
  have lk := (enL (St.pick 2 sb)).1
  go_wp2_with (go_at_call 96; refine room_c HQO.out sb ?_; rintro wc sc; rw [HRM.out])
  try simp only [Act.put, List.setIfInBounds_toArray, List.set_cons_succ, List.set_cons_zero]
  have hN_sd : Nonempty (Cls (fun w' => St W w' (RepA A q :: row U 0 x.cells :: row T 0 e.cells :: row V 0 EnV.zero.cells :: R))) := Cls.inh sc
  have f10_sd := fun s : Cls (fun w' => St W w' (RepA A q :: row U 0 x.cells :: row T 0 e.cells :: row V 0 EnV.zero.cells :: R)) => (repLd s.h).2.2.2.2.1
  have gT_sd := fun s : Cls (fun w' => St W w' (RepA A q :: row U 0 x.cells :: row T 0 e.cells :: row V 0 EnV.zero.cells :: R)) => run_loadG agg_en (vs := e.cells) rfl (St.pick 2 s.h).rowAll
  refine wp_region_class_tail (fun w' => St W w' (RepA A q :: row U 0 x.cells :: row T 0 e.cells :: row V 0 EnV.zero.cells :: R)) 5 (by kernel_rfl) (by kernel_rfl) (St.drew sc) ?_
  simp only [List.take_succ_cons, List.take_zero, List.drop_succ_cons, List.drop_zero]
  repeat (go_big_quiet_step ((fail)))
  clear hN_sd f10_sd gT_sd
  refine wpQuiet_nil ?_
  rintro ⟨wd, sd⟩
  dsimp only
  go_wp2_with (first
    | (go_at_call 141; refine over_c HQO.out.gr HQO.out.grL ((RepA.open.1 sd).perm [5, 5]) ?_; rintro we se; rw [HOV.out]; have sf : St W we (RepA A q :: row U 0 x.cells :: row T 0 e.cells :: row V 0 EnV.zero.cells :: R) := RepA.open.2 (se.perm [2, 2, 2, 2, 2, 0, 0]); have lk2 := (enL (St.pick 2 sf)).1; have lT2 := run_loadG agg_en (vs := e.cells) rfl (St.pick 2 sf).rowAll; have lU2 := run_loadG agg_en (vs := x.cells) rfl (St.pick 1 sf).rowAll)
    | (go_at_call 139; refine aged_c HG0.out sf ?_; rintro wg sg; rw [HG.out])
    | (refine wpl_storeA (vs := g.cells) rfl (.tmp 3) (.tmp 110) (by rfl) agg_en (by rfl) (by rfl) rfl (env_one _) (St.pick 2 sg) rfl ?_; rintro wh sh; have lg := run_loadG agg_en (vs := g.cells) rfl sh.rowAll)
    | (go_at_call 98; refine set_c HQO.out (St.pick 1 sh) ?_; rintro wi si; rw [HZ.out]))
  have sy := si.drew
  have gM := run_loadG agg_en (vs := g.cells) rfl (St.pick 1 sy).rowAll
  have rS := run_storeG agg_en (b := V) (o := 0) ((St.pick 3 sy).roomG rfl) (⟨rfl, env_one g⟩ : oneG g.cells 9)
  have sz := (St.pick 3 sy).setAll (vs := g.cells) rfl
  have hL := run_loadA agg_en (vs := g.cells) rfl sz.rowAll
  go_region_law (fail)
  all_goals
    go_wp2_with fail
    exact bodyPost_ret (v := .tuple #[.int .i64 1, .agg g.cells.toArray, .int .i64 0]) (by simp [results, Tryz.results90, asAddr, hL, Act.put]) rfl (HK3.out _ ((sz.perm [0, 1, 1]).dropN 3))

end
end Go.Proofs.YtojfjbbggpfijaaGreatDoor
