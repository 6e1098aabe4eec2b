/- Reps: several texts, joined. The replica: place. Printed by mkRepB.py. -/
import Derived.Test.YtojfjbbggpfijaaGreatDoorRepA
import Derived.Test.YtojfjbbggpfijaaGreatDoorClks
import Derived.Deep.DeepCutAuto
import Derived.Deep.RegionHeld3
namespace Go.Proofs.YtojfjbbggpfijaaGreatDoor
open Go.RowKit Go.Qd

section
attribute [local go_sem ↓] execOp_ldAny execOp_stE
variable {W w : World} {R : List HP} {post : Ending → World → Prop} {A : RAd} {r : RepV}

set_option maxRecDepth 100000 in
set_option maxHeartbeats 4000000 in
theorem place_has {e : EnV} (h : RepOK r) (hb : thas r.tab e.key = true) (st : St W w (RepA A r :: R))
    (K : ∀ w', St W w' (RepA A (r.placed e) :: R) → post (.returned (.int .i64 0)) w') :
    Calls Tryz.prog 120 #[.pointer (some ⟨A.p, 0, none⟩), .agg e.cells.toArray] w post := by
  have HK := hid K; clear K
  have HH := hid h
  have hl : r.tab.length ≤ 4096 := by have := h.len; have := h.room; omega
  have HL := hid hl
  obtain ⟨x, hx⟩ : ∃ x, tget r.tab e.key = x := ⟨_, rfl⟩
  have HB := hid hb; have HE := hid hx
  obtain ⟨q, hq⟩ : ∃ q : RepV, q = { r with tab := tput r.tab e.key e } := ⟨_, rfl⟩
  obtain ⟨n1, hn1⟩ : ∃ n, n = (q.sum + (18446744073709551616 - hashE x)) % 18446744073709551616 := ⟨_, rfl⟩
  obtain ⟨n2, hn2⟩ : ∃ n, n = (n1 + hashE e) % 18446744073709551616 := ⟨_, rfl⟩
  have HN1 := hid hn1; have HN2 := hid hn2
  have HP : Hid (r.placed e = { q with sum := n2, ix := ixPut r.ix e.mark }) := hid (by subst hn2; subst hn1; subst hq; unfold RepV.placed; rw [if_pos hb, hx]; rfl)
  have HQ := hid hq
  clear h hb hl hx hq hn1 hn2
  go_enter Tryz.func120, Tryz.ntmps120
  go_wp2_with (refine wpl_boxA (vs := e.cells) rfl (.tmp 1) rfl rfl st ?_; rintro T w1 s1)
  have s2 : St W w1 (RepA A r :: row T 0 e.cells :: R) := St.pick 1 s1
  go_cut [5, 6] (fun p v wx => ∃ U, p = .pointer (some ⟨U, 0, none⟩) ∧ v = .bool true ∧ St W wx (RepA A r :: row U 0 x.cells :: row T 0 e.cells :: R))
  case first =>
    have u : St W w1.drew (RepA A r :: row T 0 e.cells :: R) := s2.drew
    have gA := And.intro (repLd u).2.1 (enL (St.pick 1 u)).1
    have u2 := (s2.alloc EnV.zero.cells.toArray 67).drew
    have gB := And.intro (repLd (St.pick 1 u2)).2.1 (enL (St.pick 2 u2)).1
    have gz := zero_en
    have hone : oneG x.cells 9 := ⟨rfl, env_one _⟩
    go_region_held3 (fun w' => (loadG 110 (.pointer (some ⟨A.p, 7, none⟩))).run Tryz.prog w' = .ok (.pointer (some ⟨A.tb, 0, none⟩)) w' ∧ (loadG 9 (.pointer (some ⟨T, 0, none⟩))).run Tryz.prog w' = .ok (.string e.key) w')
      (first
        | with_reducible exact gE
        | with_reducible exact gD
        | with_reducible exact gC
        | with_reducible exact gB
        | with_reducible exact gA)
      (first
        | (go_at_call 44; first
            | (refine getE_c HH.out.tab HL.out (St.pick 2 (RepA.open.1 u)) ?_; rintro w5 t5; rw [HB.out, HE.out]; have s5 : St W w5 (RepA A r :: row T 0 e.cells :: R) := RepA.open.2 (t5.perm [1, 1]); have gC := And.intro (repLd s5).2.1 (enL (St.pick 1 s5)).1; have u5 := s5.alloc EnV.zero.cells.toArray 67; have gD := And.intro (repLd (St.pick 1 u5)).2.1 (enL (St.pick 2 u5)).1; have rB := run_storeG agg_en (b := w5.heap.size) (o := 0) (u5.roomG rfl) hone; have u6 := u5.setAll (vs := x.cells) rfl; have gE := And.intro (repLd (St.pick 1 u6)).2.1 (enL (St.pick 2 u6)).1)
            | (refine getE_c HH.out.tab HL.out (St.pick 2 (RepA.open.1 (St.pick 1 u2))) ?_; rintro w5 t5; rw [HB.out, HE.out]; have s5 : St W w5 (row w1.heap.size 0 EnV.zero.cells :: RepA A r :: row T 0 e.cells :: R) := St.pick 1 (RepA.open.2 (t5.perm [1, 1])); have gC := And.intro (repLd (St.pick 1 s5)).2.1 (enL (St.pick 2 s5)).1; have rB := run_storeG agg_en (b := w1.heap.size) (o := 0) (s5.roomG rfl) hone; have u6 := s5.setAll (vs := x.cells) rfl; have gE := And.intro (repLd (St.pick 1 u6)).2.1 (enL (St.pick 2 u6)).1)))
    all_goals
      go_wp2_with fail
      go_meet
      case rel => exact ⟨_, rfl, rfl, St.pick 1 u6⟩
  case rest =>
  obtain ⟨U, rfl, rfl, s6⟩ := hcut
  go_wp2_with fail
  try simp only [Act.put, List.setIfInBounds_toArray, List.set_cons_succ, List.set_cons_zero]
  have hN_s7 : Nonempty (Cls (fun w' => St W w' (RepA A r :: row U 0 x.cells :: row T 0 e.cells :: R))) := Cls.inh s6
  have f7_s7 := fun s : Cls (fun w' => St W w' (RepA A r :: row U 0 x.cells :: row T 0 e.cells :: R)) => (repLd s.h).2.1
  have g0_s7 := fun s : Cls (fun w' => St W w' (RepA A r :: row U 0 x.cells :: row T 0 e.cells :: R)) => (enL (St.pick 2 s.h)).1
  have gA_s7 := fun s : Cls (fun w' => St W w' (RepA A r :: row U 0 x.cells :: row T 0 e.cells :: R)) => run_loadG agg_en (vs := e.cells) rfl (St.pick 2 s.h).rowAll
  refine wp_region_class_tail (fun w' => St W w' (RepA A r :: row U 0 x.cells :: row T 0 e.cells :: R)) 7 (by kernel_rfl) (by kernel_rfl) (St.drew s6) ?_
  simp only [List.take_succ_cons, List.take_zero, List.drop_succ_cons, List.drop_zero]
  repeat (go_big_quiet_step ((fail)))
  clear hN_s7 f7_s7 g0_s7 gA_s7
  refine wpQuiet_nil ?_
  rintro ⟨w7, s7⟩
  dsimp only
  go_wp2_with (go_at_call 140; refine putE_old HH.out.tab HL.out HB.out (St.pick 2 (RepA.open.1 s7)) ?_; rintro w8 s8
               have s9 : St W w8 (RepA A q :: row U 0 x.cells :: row T 0 e.cells :: R) := (by rw [HQ.out]; exact RepA.open.2 (s8.perm [1, 1])))
  try simp only [Act.put, List.setIfInBounds_toArray, List.set_cons_succ, List.set_cons_zero]
  have hN_sa : Nonempty (Cls (fun w' => St W w' (RepA A q :: row U 0 x.cells :: row T 0 e.cells :: R))) := Cls.inh s9
  have gA_sa := fun s : Cls (fun w' => St W w' (RepA A q :: row U 0 x.cells :: row T 0 e.cells :: R)) => run_loadG agg_en (vs := x.cells) rfl (St.pick 1 s.h).rowAll
  refine wp_region_class_tail (fun w' => St W w' (RepA A q :: row U 0 x.cells :: row T 0 e.cells :: R)) 4 (by kernel_rfl) (by kernel_rfl) (St.drew s9) ?_
  simp only [List.take_succ_cons, List.take_zero, List.drop_succ_cons, List.drop_zero]
  repeat (go_big_quiet_step ((fail)))
  clear hN_sa gA_sa
  refine wpQuiet_nil ?_
  rintro ⟨wa, sa⟩
  dsimp only
  go_wp2_with (go_at_call 169; refine sumDrop_c (o := 6) (n := q.sum) rfl (RepA.open.1 sa) ?_; rintro vb wb sb
               have sc : St W wb (RepA A { q with sum := n1 } :: row U 0 x.cells :: row T 0 e.cells :: R) := RepA.open.2 (by rw [HN1.out]; exact sb))
  try simp only [Act.put, List.setIfInBounds_toArray, List.set_cons_succ, List.set_cons_zero]
  have hN_sd : Nonempty (Cls (fun w' => St W w' (RepA A { q with sum := n1 } :: row U 0 x.cells :: row T 0 e.cells :: R))) := Cls.inh sc
  have gA_sd := fun s : Cls (fun w' => St W w' (RepA A { q with sum := n1 } :: row U 0 x.cells :: row T 0 e.cells :: R)) => run_loadG agg_en (vs := e.cells) rfl (St.pick 2 s.h).rowAll
  refine wp_region_class_tail (fun w' => St W w' (RepA A { q with sum := n1 } :: row U 0 x.cells :: row T 0 e.cells :: R)) 4 (by kernel_rfl) (by kernel_rfl) (St.drew sc) ?_
  simp only [List.take_succ_cons, List.take_zero, List.drop_succ_cons, List.drop_zero]
  repeat (go_big_quiet_step ((fail)))
  clear hN_sd gA_sd
  refine wpQuiet_nil ?_
  rintro ⟨wd, sd⟩
  dsimp only
  go_wp2_with (go_at_call 170; refine sumAdd_c (o := 6) (n := n1) rfl (RepA.open.1 sd) ?_; rintro ve we se
               have sf : St W we (RepA A { q with sum := n2 } :: row U 0 x.cells :: row T 0 e.cells :: R) := RepA.open.2 (by rw [HN2.out]; exact se))
  try simp only [Act.put, List.setIfInBounds_toArray, List.set_cons_succ, List.set_cons_zero]
  have hN_sg : Nonempty (Cls (fun w' => St W w' (RepA A { q with sum := n2 } :: row U 0 x.cells :: row T 0 e.cells :: R))) := Cls.inh sf
  have f9_sg := fun s : Cls (fun w' => St W w' (RepA A { q with sum := n2 } :: row U 0 x.cells :: row T 0 e.cells :: R)) => (repLd s.h).2.2.2.1
  have gA_sg := fun s : Cls (fun w' => St W w' (RepA A { q with sum := n2 } :: row U 0 x.cells :: row T 0 e.cells :: R)) => run_loadG agg_en (vs := e.cells) rfl (St.pick 2 s.h).rowAll
  refine wp_region_class_tail (fun w' => St W w' (RepA A { q with sum := n2 } :: row U 0 x.cells :: row T 0 e.cells :: R)) 6 (by kernel_rfl) (by kernel_rfl) (St.drew sf) ?_
  simp only [List.take_succ_cons, List.take_zero, List.drop_succ_cons, List.drop_zero]
  repeat (go_big_quiet_step ((rename_i s; go_at_call 53; refine emark_c s.h ?_; rintro w4' s4'; exact Cls.end _ s4')))
  clear hN_sg f9_sg gA_sg
  refine wpQuiet_nil ?_
  rintro ⟨wg, sg⟩
  dsimp only
  have hqi : q.ix = r.ix := by rw [HQ.out]
  go_wp2_with (go_at_call 171; refine ixput_c (l := q.ix) (by rw [hqi]; exact HH.out.ix) (by rw [hqi]; have := HH.out.ixL; omega) (St.pick 4 (RepA.open.1 sg)) ?_; rintro wh sh)
  refine HK.out _ ?_
  rw [HP.out, ← hqi]
  have sz : St W wh (RepA A { q with sum := n2, ix := ixPut q.ix e.mark } :: row U 0 x.cells :: row T 0 e.cells :: R) := RepA.open.2 (sh.perm [1, 1, 1, 1])
  exact (sz.perm [1, 1]).dropN 2
set_option maxRecDepth 100000 in
set_option maxHeartbeats 4000000 in
theorem place_new {e : EnV} (h : RepOK r) (hb : thas r.tab e.key = false) (hr : (r.tab.length : Int) < r.room) (st : St W w (RepA A r :: R))
    (K : ∀ w', St W w' (RepA A (r.placed e) :: R) → post (.returned (.int .i64 0)) w') :
    Calls Tryz.prog 120 #[.pointer (some ⟨A.p, 0, none⟩), .agg e.cells.toArray] w post := by
  have HK := hid K; clear K
  have HH := hid h
  have hl : r.tab.length ≤ 4096 := by have := h.len; have := h.room; omega
  have HL := hid hl
  have h5 : r.tab.length ≤ 4095 := by have := h.room; omega
  have h6 : ¬ (r.tab.length : Int) = r.room := by omega
  have H5 := hid h5; have H6 := hid h6
  clear h5 h6
  obtain ⟨x, hx⟩ : ∃ x, tget r.tab e.key = x := ⟨_, rfl⟩
  have HB := hid hb; have HE := hid hx
  obtain ⟨q, hq⟩ : ∃ q : RepV, q = { r with tab := tput r.tab e.key e } := ⟨_, rfl⟩
  obtain ⟨n1, hn1⟩ : ∃ n, n = (q.sum + hashE e) % 18446744073709551616 := ⟨_, rfl⟩
  have HN1 := hid hn1
  have HP : Hid (r.placed e = { q with sum := n1, ix := ixPut r.ix e.mark }) := hid (by subst hn1; subst hq; unfold RepV.placed; rw [if_neg (by rw [hb]; simp)]; rfl)
  have HQ := hid hq
  clear h hr hb hl hx hq  hn1
  go_enter Tryz.func120, Tryz.ntmps120
  go_wp2_with (refine wpl_boxA (vs := e.cells) rfl (.tmp 1) rfl rfl st ?_; rintro T w1 s1)
  have s2 : St W w1 (RepA A r :: row T 0 e.cells :: R) := St.pick 1 s1
  go_cut [5, 6] (fun p v wx => ∃ U, p = .pointer (some ⟨U, 0, none⟩) ∧ v = .bool false ∧ St W wx (RepA A r :: row U 0 x.cells :: row T 0 e.cells :: R))
  case first =>
    have u : St W w1.drew (RepA A r :: row T 0 e.cells :: R) := s2.drew
    have gA := And.intro (repLd u).2.1 (enL (St.pick 1 u)).1
    have u2 := (s2.alloc EnV.zero.cells.toArray 67).drew
    have gB := And.intro (repLd (St.pick 1 u2)).2.1 (enL (St.pick 2 u2)).1
    have gz := zero_en
    have hone : oneG x.cells 9 := ⟨rfl, env_one _⟩
    go_region_held3 (fun w' => (loadG 110 (.pointer (some ⟨A.p, 7, none⟩))).run Tryz.prog w' = .ok (.pointer (some ⟨A.tb, 0, none⟩)) w' ∧ (loadG 9 (.pointer (some ⟨T, 0, none⟩))).run Tryz.prog w' = .ok (.string e.key) w')
      (first
        | with_reducible exact gE
        | with_reducible exact gD
        | with_reducible exact gC
        | with_reducible exact gB
        | with_reducible exact gA)
      (first
        | (go_at_call 44; first
            | (refine getE_c HH.out.tab HL.out (St.pick 2 (RepA.open.1 u)) ?_; rintro w5 t5; rw [HB.out, HE.out]; have s5 : St W w5 (RepA A r :: row T 0 e.cells :: R) := RepA.open.2 (t5.perm [1, 1]); have gC := And.intro (repLd s5).2.1 (enL (St.pick 1 s5)).1; have u5 := s5.alloc EnV.zero.cells.toArray 67; have gD := And.intro (repLd (St.pick 1 u5)).2.1 (enL (St.pick 2 u5)).1; have rB := run_storeG agg_en (b := w5.heap.size) (o := 0) (u5.roomG rfl) hone; have u6 := u5.setAll (vs := x.cells) rfl; have gE := And.intro (repLd (St.pick 1 u6)).2.1 (enL (St.pick 2 u6)).1)
            | (refine getE_c HH.out.tab HL.out (St.pick 2 (RepA.open.1 (St.pick 1 u2))) ?_; rintro w5 t5; rw [HB.out, HE.out]; have s5 : St W w5 (row w1.heap.size 0 EnV.zero.cells :: RepA A r :: row T 0 e.cells :: R) := St.pick 1 (RepA.open.2 (t5.perm [1, 1])); have gC := And.intro (repLd (St.pick 1 s5)).2.1 (enL (St.pick 2 s5)).1; have rB := run_storeG agg_en (b := w1.heap.size) (o := 0) (s5.roomG rfl) hone; have u6 := s5.setAll (vs := x.cells) rfl; have gE := And.intro (repLd (St.pick 1 u6)).2.1 (enL (St.pick 2 u6)).1)))
    all_goals
      go_wp2_with fail
      go_meet
      case rel => exact ⟨_, rfl, rfl, St.pick 1 u6⟩
  case rest =>
  obtain ⟨U, rfl, rfl, s6⟩ := hcut
  go_wp2_with fail
  try simp only [Act.put, List.setIfInBounds_toArray, List.set_cons_succ, List.set_cons_zero]
  have hN_s7 : Nonempty (Cls (fun w' => St W w' (RepA A r :: row U 0 x.cells :: row T 0 e.cells :: R))) := Cls.inh s6
  have f7_s7 := fun s : Cls (fun w' => St W w' (RepA A r :: row U 0 x.cells :: row T 0 e.cells :: R)) => (repLd s.h).2.1
  have g0_s7 := fun s : Cls (fun w' => St W w' (RepA A r :: row U 0 x.cells :: row T 0 e.cells :: R)) => (enL (St.pick 2 s.h)).1
  have gA_s7 := fun s : Cls (fun w' => St W w' (RepA A r :: row U 0 x.cells :: row T 0 e.cells :: R)) => run_loadG agg_en (vs := e.cells) rfl (St.pick 2 s.h).rowAll
  refine wp_region_class_tail (fun w' => St W w' (RepA A r :: row U 0 x.cells :: row T 0 e.cells :: R)) 7 (by kernel_rfl) (by kernel_rfl) (St.drew s6) ?_
  simp only [List.take_succ_cons, List.take_zero, List.drop_succ_cons, List.drop_zero]
  repeat (go_big_quiet_step ((fail)))
  clear hN_s7 f7_s7 g0_s7 gA_s7
  refine wpQuiet_nil ?_
  rintro ⟨w7, s7⟩
  dsimp only
  go_wp2_with (go_at_call 140; refine putE_new HH.out.tab H5.out HB.out H6.out (St.pick 2 (RepA.open.1 s7)) ?_; rintro w8 s8
               have s9 : St W w8 (RepA A q :: row U 0 x.cells :: row T 0 e.cells :: R) := (by rw [HQ.out]; exact RepA.open.2 (s8.perm [1, 1])))
  try simp only [Act.put, List.setIfInBounds_toArray, List.set_cons_succ, List.set_cons_zero]
  have hN_sd : Nonempty (Cls (fun w' => St W w' (RepA A q :: row U 0 x.cells :: row T 0 e.cells :: R))) := Cls.inh s9
  have gA_sd := fun s : Cls (fun w' => St W w' (RepA A q :: row U 0 x.cells :: row T 0 e.cells :: R)) => run_loadG agg_en (vs := e.cells) rfl (St.pick 2 s.h).rowAll
  refine wp_region_class_tail (fun w' => St W w' (RepA A q :: row U 0 x.cells :: row T 0 e.cells :: R)) 4 (by kernel_rfl) (by kernel_rfl) (St.drew s9) ?_
  simp only [List.take_succ_cons, List.take_zero, List.drop_succ_cons, List.drop_zero]
  repeat (go_big_quiet_step ((fail)))
  clear hN_sd gA_sd
  refine wpQuiet_nil ?_
  rintro ⟨wd, sd⟩
  dsimp only
  go_wp2_with (go_at_call 170; refine sumAdd_c (o := 6) (n := q.sum) rfl (RepA.open.1 sd) ?_; rintro ve we se
               have sf : St W we (RepA A { q with sum := n1 } :: row U 0 x.cells :: row T 0 e.cells :: R) := RepA.open.2 (by rw [HN1.out]; exact se))
  try simp only [Act.put, List.setIfInBounds_toArray, List.set_cons_succ, List.set_cons_zero]
  have hN_sg : Nonempty (Cls (fun w' => St W w' (RepA A { q with sum := n1 } :: row U 0 x.cells :: row T 0 e.cells :: R))) := Cls.inh sf
  have f9_sg := fun s : Cls (fun w' => St W w' (RepA A { q with sum := n1 } :: row U 0 x.cells :: row T 0 e.cells :: R)) => (repLd s.h).2.2.2.1
  have gA_sg := fun s : Cls (fun w' => St W w' (RepA A { q with sum := n1 } :: row U 0 x.cells :: row T 0 e.cells :: R)) => run_loadG agg_en (vs := e.cells) rfl (St.pick 2 s.h).rowAll
  refine wp_region_class_tail (fun w' => St W w' (RepA A { q with sum := n1 } :: row U 0 x.cells :: row T 0 e.cells :: R)) 6 (by kernel_rfl) (by kernel_rfl) (St.drew sf) ?_
  simp only [List.take_succ_cons, List.take_zero, List.drop_succ_cons, List.drop_zero]
  repeat (go_big_quiet_step ((rename_i s; go_at_call 53; refine emark_c s.h ?_; rintro w4' s4'; exact Cls.end _ s4')))
  clear hN_sg f9_sg gA_sg
  refine wpQuiet_nil ?_
  rintro ⟨wg, sg⟩
  dsimp only
  have hqi : q.ix = r.ix := by rw [HQ.out]
  go_wp2_with (go_at_call 171; refine ixput_c (l := q.ix) (by rw [hqi]; exact HH.out.ix) (by rw [hqi]; have := HH.out.ixL; omega) (St.pick 4 (RepA.open.1 sg)) ?_; rintro wh sh)
  refine HK.out _ ?_
  rw [HP.out, ← hqi]
  have sz : St W wh (RepA A { q with sum := n1, ix := ixPut q.ix e.mark } :: row U 0 x.cells :: row T 0 e.cells :: R) := RepA.open.2 (sh.perm [1, 1, 1, 1])
  exact (sz.perm [1, 1]).dropN 2
set_option maxRecDepth 100000 in
set_option maxHeartbeats 4000000 in
theorem place_full {e : EnV} (h : RepOK r) (hb : thas r.tab e.key = false) (hr : (r.tab.length : Int) = r.room) (st : St W w (RepA A r :: R))
    (K : ∀ w', St W w' (RepA A r :: R) → post (.returned (.int .i64 7)) w') :
    Calls Tryz.prog 120 #[.pointer (some ⟨A.p, 0, none⟩), .agg e.cells.toArray] w post := by
  have HK := hid K; clear K
  have HH := hid h
  have hl : r.tab.length ≤ 4096 := by have := h.len; have := h.room; omega
  have HL := hid hl
  have H6 := hid hr
  obtain ⟨x, hx⟩ : ∃ x, tget r.tab e.key = x := ⟨_, rfl⟩
  have HB := hid hb; have HE := hid hx
  clear h hr hb hl hx
  go_enter Tryz.func120, Tryz.ntmps120
  go_wp2_with (refine wpl_boxA (vs := e.cells) rfl (.tmp 1) rfl rfl st ?_; rintro T w1 s1)
  have s2 : St W w1 (RepA A r :: row T 0 e.cells :: R) := St.pick 1 s1
  go_cut [5, 6] (fun p v wx => ∃ U, p = .pointer (some ⟨U, 0, none⟩) ∧ v = .bool false ∧ St W wx (RepA A r :: row U 0 x.cells :: row T 0 e.cells :: R))
  case first =>
    have u : St W w1.drew (RepA A r :: row T 0 e.cells :: R) := s2.drew
    have gA := And.intro (repLd u).2.1 (enL (St.pick 1 u)).1
    have u2 := (s2.alloc EnV.zero.cells.toArray 67).drew
    have gB := And.intro (repLd (St.pick 1 u2)).2.1 (enL (St.pick 2 u2)).1
    have gz := zero_en
    have hone : oneG x.cells 9 := ⟨rfl, env_one _⟩
    go_region_held3 (fun w' => (loadG 110 (.pointer (some ⟨A.p, 7, none⟩))).run Tryz.prog w' = .ok (.pointer (some ⟨A.tb, 0, none⟩)) w' ∧ (loadG 9 (.pointer (some ⟨T, 0, none⟩))).run Tryz.prog w' = .ok (.string e.key) w')
      (first
        | with_reducible exact gE
        | with_reducible exact gD
        | with_reducible exact gC
        | with_reducible exact gB
        | with_reducible exact gA)
      (first
        | (go_at_call 44; first
            | (refine getE_c HH.out.tab HL.out (St.pick 2 (RepA.open.1 u)) ?_; rintro w5 t5; rw [HB.out, HE.out]; have s5 : St W w5 (RepA A r :: row T 0 e.cells :: R) := RepA.open.2 (t5.perm [1, 1]); have gC := And.intro (repLd s5).2.1 (enL (St.pick 1 s5)).1; have u5 := s5.alloc EnV.zero.cells.toArray 67; have gD := And.intro (repLd (St.pick 1 u5)).2.1 (enL (St.pick 2 u5)).1; have rB := run_storeG agg_en (b := w5.heap.size) (o := 0) (u5.roomG rfl) hone; have u6 := u5.setAll (vs := x.cells) rfl; have gE := And.intro (repLd (St.pick 1 u6)).2.1 (enL (St.pick 2 u6)).1)
            | (refine getE_c HH.out.tab HL.out (St.pick 2 (RepA.open.1 (St.pick 1 u2))) ?_; rintro w5 t5; rw [HB.out, HE.out]; have s5 : St W w5 (row w1.heap.size 0 EnV.zero.cells :: RepA A r :: row T 0 e.cells :: R) := St.pick 1 (RepA.open.2 (t5.perm [1, 1])); have gC := And.intro (repLd (St.pick 1 s5)).2.1 (enL (St.pick 2 s5)).1; have rB := run_storeG agg_en (b := w1.heap.size) (o := 0) (s5.roomG rfl) hone; have u6 := s5.setAll (vs := x.cells) rfl; have gE := And.intro (repLd (St.pick 1 u6)).2.1 (enL (St.pick 2 u6)).1)))
    all_goals
      go_wp2_with fail
      go_meet
      case rel => exact ⟨_, rfl, rfl, St.pick 1 u6⟩
  case rest =>
  obtain ⟨U, rfl, rfl, s6⟩ := hcut
  go_wp2_with fail
  try simp only [Act.put, List.setIfInBounds_toArray, List.set_cons_succ, List.set_cons_zero]
  have hN_s7 : Nonempty (Cls (fun w' => St W w' (RepA A r :: row U 0 x.cells :: row T 0 e.cells :: R))) := Cls.inh s6
  have f7_s7 := fun s : Cls (fun w' => St W w' (RepA A r :: row U 0 x.cells :: row T 0 e.cells :: R)) => (repLd s.h).2.1
  have g0_s7 := fun s : Cls (fun w' => St W w' (RepA A r :: row U 0 x.cells :: row T 0 e.cells :: R)) => (enL (St.pick 2 s.h)).1
  have gA_s7 := fun s : Cls (fun w' => St W w' (RepA A r :: row U 0 x.cells :: row T 0 e.cells :: R)) => run_loadG agg_en (vs := e.cells) rfl (St.pick 2 s.h).rowAll
  refine wp_region_class_tail (fun w' => St W w' (RepA A r :: row U 0 x.cells :: row T 0 e.cells :: R)) 7 (by kernel_rfl) (by kernel_rfl) (St.drew s6) ?_
  simp only [List.take_succ_cons, List.take_zero, List.drop_succ_cons, List.drop_zero]
  repeat (go_big_quiet_step ((fail)))
  clear hN_s7 f7_s7 g0_s7 gA_s7
  refine wpQuiet_nil ?_
  rintro ⟨w7, s7⟩
  dsimp only
  go_wp2_with (go_at_call 140; refine putE_full HH.out.tab HL.out HB.out H6.out (St.pick 2 (RepA.open.1 s7)) ?_; rintro w8 s8
               have s9 : St W w8 (RepA A r :: row U 0 x.cells :: row T 0 e.cells :: R) := RepA.open.2 (s8.perm [1, 1]))
  exact HK.out _ ((s9.perm [1, 1]).dropN 2)
/-- An entry is placed. -/
theorem rplace_c {e : EnV} (h : RepOK r) (st : St W w (RepA A r :: R))
    (K : ∀ w', St W w' (RepA A (if r.roomB e.key = true then r.placed e else r) :: R) → post (.returned (.int .i64 (if r.roomB e.key = true then 0 else 7))) w') :
    Calls Tryz.prog 120 #[.pointer (some ⟨A.p, 0, none⟩), .agg e.cells.toArray] w post := by
  cases hb : thas r.tab e.key with
  | true =>
    have hr : r.roomB e.key = true := by unfold RepV.roomB; rw [hb]; rfl
    rw [hr] at K
    simp only [if_true] at K
    exact place_has h hb st K
  | false =>
    by_cases hl : (r.tab.length : Int) < r.room
    · have hr : r.roomB e.key = true := by unfold RepV.roomB; rw [hb, decide_eq_true hl]; rfl
      rw [hr] at K
      simp only [if_true] at K
      exact place_new h hb hl st K
    · have hr : r.roomB e.key = false := by unfold RepV.roomB; rw [hb, decide_eq_false hl]; rfl
      rw [hr] at K
      simp only [Bool.false_eq_true, if_false] at K
      exact place_full h hb (by have := h.len; omega) st K
end
end Go.Proofs.YtojfjbbggpfijaaGreatDoor

/- The replica: wrote. Printed by mkRepC.py. -/
namespace Go.Proofs.YtojfjbbggpfijaaGreatDoor
open Go.RowKit Go.Qd

section
attribute [local go_sem ↓] execOp_ldAny
variable {W w : World} {R : List HP} {post : Ending → World → Prop} {A : RAd} {r : RepV}

theorem enSite {T : Nat} {e : EnV} (h : St W w (row T 0 e.cells :: R)) : (loadG 3 (.pointer (some ⟨T, 4, none⟩))).run Tryz.prog w = .ok (.int .i64 e.ss) w :=
  run_ldP (by kernel_rfl) (by have := h.rowCell (i := 4) (v := .int .i64 e.ss) rfl; rwa [Nat.zero_add] at this)

set_option maxRecDepth 100000 in
set_option maxHeartbeats 2000000 in
theorem wrote_no {e : EnV} (_h : RepOK r) (hs : ¬ e.ss = r.site) (st : St W w (RepA A r :: R))
    (K : ∀ w', St W w' (RepA A r :: R) → post (.returned (.tuple #[])) w') :
    Calls Tryz.prog 117 #[.pointer (some ⟨A.p, 0, none⟩), .agg e.cells.toArray] w post := by
  have HK := hid K; clear K
  have hd : decide (e.ss = r.site) = false := decide_eq_false hs
  go_enter Tryz.func117, Tryz.ntmps117
  go_wp2_with (refine wpl_boxA (vs := e.cells) rfl (.tmp 1) rfl rfl st ?_; rintro T w1 s1)
  have s2 : St W w1 (RepA A r :: row T 0 e.cells :: R) := St.pick 1 s1
  try simp only [Act.put, List.setIfInBounds_toArray, List.set_cons_succ, List.set_cons_zero]
  have hN_s3 : Nonempty (Cls (fun w' => St W w' (RepA A r :: row T 0 e.cells :: R))) := Cls.inh s2
  have f5_s3 := fun s : Cls (fun w' => St W w' (RepA A r :: row T 0 e.cells :: R)) => (repLd s.h).1
  have g4_s3 := fun s : Cls (fun w' => St W w' (RepA A r :: row T 0 e.cells :: R)) => enSite (St.pick 1 s.h)
  refine wp_region_class (fun w' => St W w' (RepA A r :: row T 0 e.cells :: R)) (by kernel_rfl) (by kernel_rfl) (St.drew s2) ?_
  repeat (go_big_quiet_step ((rename_i s; go_at_call 36; refine site_c (St.pick 1 (RepA.open.1 s.h)) ?_; exact Cls.end _ s.h)))
  clear hN_s3 f5_s3 g4_s3
  refine wpQuiet_nil ?_
  rintro ⟨w3, s3⟩
  dsimp only
  go_wp2_with fail
  go_end0
  exact HK.out _ ((St.pick 1 s3).drop)

set_option maxRecDepth 100000 in
set_option maxHeartbeats 2000000 in
theorem wrote_old {e : EnV} (h : RepOK r) (hs : e.ss = r.site) (hb : bhas r.own e.key = true) (st : St W w (RepA A r :: R))
    (K : ∀ w', St W w' (RepA A { r with own := bput r.own e.key true } :: R) → post (.returned (.tuple #[])) w') :
    Calls Tryz.prog 117 #[.pointer (some ⟨A.p, 0, none⟩), .agg e.cells.toArray] w post := by
  have HK := hid K; clear K
  have HH := hid h
  have hd : decide (e.ss = r.site) = true := decide_eq_true hs
  have HB := hid hb
  clear hb
  clear h
  go_enter Tryz.func117, Tryz.ntmps117
  go_wp2_with (refine wpl_boxA (vs := e.cells) rfl (.tmp 1) rfl rfl st ?_; rintro T w1 s1)
  have s2 : St W w1 (RepA A r :: row T 0 e.cells :: R) := St.pick 1 s1
  try simp only [Act.put, List.setIfInBounds_toArray, List.set_cons_succ, List.set_cons_zero]
  have hN_s3 : Nonempty (Cls (fun w' => St W w' (RepA A r :: row T 0 e.cells :: R))) := Cls.inh s2
  have f5_s3 := fun s : Cls (fun w' => St W w' (RepA A r :: row T 0 e.cells :: R)) => (repLd s.h).1
  have g4_s3 := fun s : Cls (fun w' => St W w' (RepA A r :: row T 0 e.cells :: R)) => enSite (St.pick 1 s.h)
  refine wp_region_class (fun w' => St W w' (RepA A r :: row T 0 e.cells :: R)) (by kernel_rfl) (by kernel_rfl) (St.drew s2) ?_
  repeat (go_big_quiet_step ((rename_i s; go_at_call 36; refine site_c (St.pick 1 (RepA.open.1 s.h)) ?_; exact Cls.end _ s.h)))
  clear hN_s3 f5_s3 g4_s3
  refine wpQuiet_nil ?_
  rintro ⟨w3, s3⟩
  dsimp only
  go_wp2_with fail
  try simp only [Act.put, List.setIfInBounds_toArray, List.set_cons_succ, List.set_cons_zero]
  have hN_s5 : Nonempty (Cls (fun w' => St W w' (RepA A r :: row T 0 e.cells :: R))) := Cls.inh s3
  have f8_s5 := fun s : Cls (fun w' => St W w' (RepA A r :: row T 0 e.cells :: R)) => (repLd s.h).2.2.1
  have g0_s5 := fun s : Cls (fun w' => St W w' (RepA A r :: row T 0 e.cells :: R)) => (enL (St.pick 1 s.h)).1
  refine wp_region_class_tail (fun w' => St W w' (RepA A r :: row T 0 e.cells :: R)) 6 (by kernel_rfl) (by kernel_rfl) (St.drew s3) ?_
  simp only [List.take_succ_cons, List.take_zero, List.drop_succ_cons, List.drop_zero]
  repeat (go_big_quiet_step ((fail)))
  clear hN_s5 f8_s5 g0_s5
  refine wpQuiet_nil ?_
  rintro ⟨w5, s5⟩
  dsimp only
  go_wp2_with (go_at_call 166; refine putB_old HH.out.own HH.out.ownL HB.out (St.pick 3 (RepA.open.1 s5)) ?_; rintro w6 s6)
  go_end0
  have s7 : St W w6 (RepA A { r with own := bput r.own e.key true } :: row T 0 e.cells :: R) := RepA.open.2 (s6.perm [1, 1, 1])
  exact HK.out _ ((St.pick 1 s7).drop)

set_option maxRecDepth 100000 in
set_option maxHeartbeats 2000000 in
theorem wrote_full {e : EnV} (h : RepOK r) (hs : e.ss = r.site) (hb : bhas r.own e.key = false) (hl : r.own.length = 4096) (st : St W w (RepA A r :: R))
    (K : ∀ w', St W w' (RepA A r :: R) → post (.returned (.tuple #[])) w') :
    Calls Tryz.prog 117 #[.pointer (some ⟨A.p, 0, none⟩), .agg e.cells.toArray] w post := by
  have HK := hid K; clear K
  have HH := hid h
  have hd : decide (e.ss = r.site) = true := decide_eq_true hs
  have HB := hid hb
  have HL : Hid ((r.own.length : Int) = 4096) := hid (by omega)
  clear hb hl
  clear h
  go_enter Tryz.func117, Tryz.ntmps117
  go_wp2_with (refine wpl_boxA (vs := e.cells) rfl (.tmp 1) rfl rfl st ?_; rintro T w1 s1)
  have s2 : St W w1 (RepA A r :: row T 0 e.cells :: R) := St.pick 1 s1
  try simp only [Act.put, List.setIfInBounds_toArray, List.set_cons_succ, List.set_cons_zero]
  have hN_s3 : Nonempty (Cls (fun w' => St W w' (RepA A r :: row T 0 e.cells :: R))) := Cls.inh s2
  have f5_s3 := fun s : Cls (fun w' => St W w' (RepA A r :: row T 0 e.cells :: R)) => (repLd s.h).1
  have g4_s3 := fun s : Cls (fun w' => St W w' (RepA A r :: row T 0 e.cells :: R)) => enSite (St.pick 1 s.h)
  refine wp_region_class (fun w' => St W w' (RepA A r :: row T 0 e.cells :: R)) (by kernel_rfl) (by kernel_rfl) (St.drew s2) ?_
  repeat (go_big_quiet_step ((rename_i s; go_at_call 36; refine site_c (St.pick 1 (RepA.open.1 s.h)) ?_; exact Cls.end _ s.h)))
  clear hN_s3 f5_s3 g4_s3
  refine wpQuiet_nil ?_
  rintro ⟨w3, s3⟩
  dsimp only
  go_wp2_with fail
  try simp only [Act.put, List.setIfInBounds_toArray, List.set_cons_succ, List.set_cons_zero]
  have hN_s5 : Nonempty (Cls (fun w' => St W w' (RepA A r :: row T 0 e.cells :: R))) := Cls.inh s3
  have f8_s5 := fun s : Cls (fun w' => St W w' (RepA A r :: row T 0 e.cells :: R)) => (repLd s.h).2.2.1
  have g0_s5 := fun s : Cls (fun w' => St W w' (RepA A r :: row T 0 e.cells :: R)) => (enL (St.pick 1 s.h)).1
  refine wp_region_class_tail (fun w' => St W w' (RepA A r :: row T 0 e.cells :: R)) 6 (by kernel_rfl) (by kernel_rfl) (St.drew s3) ?_
  simp only [List.take_succ_cons, List.take_zero, List.drop_succ_cons, List.drop_zero]
  repeat (go_big_quiet_step ((fail)))
  clear hN_s5 f8_s5 g0_s5
  refine wpQuiet_nil ?_
  rintro ⟨w5, s5⟩
  dsimp only
  go_wp2_with (go_at_call 166; refine putB_full HH.out.own HH.out.ownL HB.out HL.out (St.pick 3 (RepA.open.1 s5)) ?_; rintro w6 s6)
  go_end0
  have s7 : St W w6 (RepA A r :: row T 0 e.cells :: R) := RepA.open.2 (s6.perm [1, 1, 1])
  exact HK.out _ ((St.pick 1 s7).drop)

set_option maxRecDepth 100000 in
set_option maxHeartbeats 2000000 in
theorem wrote_new {e : EnV} (h : RepOK r) (hs : e.ss = r.site) (hb : bhas r.own e.key = false) (hl : ¬ r.own.length = 4096) (st : St W w (RepA A r :: R))
    (K : ∀ w', St W w' (RepA A { r with own := bput r.own e.key true } :: R) → post (.returned (.tuple #[])) w') :
    Calls Tryz.prog 117 #[.pointer (some ⟨A.p, 0, none⟩), .agg e.cells.toArray] w post := by
  have HK := hid K; clear K
  have HH := hid h
  have hd : decide (e.ss = r.site) = true := decide_eq_true hs
  have HB := hid hb
  have HL : Hid (¬ (r.own.length : Int) = 4096) := hid (by omega)
  have HM : Hid (r.own.length ≤ 4095) := hid (by have := h.ownL; omega)
  clear hb hl
  clear h
  go_enter Tryz.func117, Tryz.ntmps117
  go_wp2_with (refine wpl_boxA (vs := e.cells) rfl (.tmp 1) rfl rfl st ?_; rintro T w1 s1)
  have s2 : St W w1 (RepA A r :: row T 0 e.cells :: R) := St.pick 1 s1
  try simp only [Act.put, List.setIfInBounds_toArray, List.set_cons_succ, List.set_cons_zero]
  have hN_s3 : Nonempty (Cls (fun w' => St W w' (RepA A r :: row T 0 e.cells :: R))) := Cls.inh s2
  have f5_s3 := fun s : Cls (fun w' => St W w' (RepA A r :: row T 0 e.cells :: R)) => (repLd s.h).1
  have g4_s3 := fun s : Cls (fun w' => St W w' (RepA A r :: row T 0 e.cells :: R)) => enSite (St.pick 1 s.h)
  refine wp_region_class (fun w' => St W w' (RepA A r :: row T 0 e.cells :: R)) (by kernel_rfl) (by kernel_rfl) (St.drew s2) ?_
  repeat (go_big_quiet_step ((rename_i s; go_at_call 36; refine site_c (St.pick 1 (RepA.open.1 s.h)) ?_; exact Cls.end _ s.h)))
  clear hN_s3 f5_s3 g4_s3
  refine wpQuiet_nil ?_
  rintro ⟨w3, s3⟩
  dsimp only
  go_wp2_with fail
  try simp only [Act.put, List.setIfInBounds_toArray, List.set_cons_succ, List.set_cons_zero]
  have hN_s5 : Nonempty (Cls (fun w' => St W w' (RepA A r :: row T 0 e.cells :: R))) := Cls.inh s3
  have f8_s5 := fun s : Cls (fun w' => St W w' (RepA A r :: row T 0 e.cells :: R)) => (repLd s.h).2.2.1
  have g0_s5 := fun s : Cls (fun w' => St W w' (RepA A r :: row T 0 e.cells :: R)) => (enL (St.pick 1 s.h)).1
  refine wp_region_class_tail (fun w' => St W w' (RepA A r :: row T 0 e.cells :: R)) 6 (by kernel_rfl) (by kernel_rfl) (St.drew s3) ?_
  simp only [List.take_succ_cons, List.take_zero, List.drop_succ_cons, List.drop_zero]
  repeat (go_big_quiet_step ((fail)))
  clear hN_s5 f8_s5 g0_s5
  refine wpQuiet_nil ?_
  rintro ⟨w5, s5⟩
  dsimp only
  go_wp2_with (go_at_call 166; refine putB_new HH.out.own HM.out HB.out HL.out (St.pick 3 (RepA.open.1 s5)) ?_; rintro w6 s6)
  go_end0
  have s7 : St W w6 (RepA A { r with own := bput r.own e.key true } :: row T 0 e.cells :: R) := RepA.open.2 (s6.perm [1, 1, 1])
  exact HK.out _ ((St.pick 1 s7).drop)

/-- An own key is noted. -/
theorem wrote_c {e : EnV} (h : RepOK r) (st : St W w (RepA A r :: R))
    (K : ∀ w', St W w' (RepA A (r.wrote e) :: R) → post (.returned (.tuple #[])) w') :
    Calls Tryz.prog 117 #[.pointer (some ⟨A.p, 0, none⟩), .agg e.cells.toArray] w post := by
  unfold RepV.wrote at K
  by_cases hs : e.ss = r.site
  · rw [if_pos hs] at K
    unfold RepV.ownPut at K
    cases hb : bhas r.own e.key with
    | true =>
      have hb2 : hasK Prod.fst r.own e.key = true := hb
      rw [hb2] at K
      exact wrote_old h hs hb st K
    | false =>
      have hb2 : hasK Prod.fst r.own e.key = false := hb
      rw [hb2] at K
      by_cases hl : r.own.length = 4096
      · have hd : decide (r.own.length < 4096) = false := decide_eq_false (by omega)
        rw [hd] at K
        exact wrote_full h hs hb hl st K
      · have hd : decide (r.own.length < 4096) = true := decide_eq_true (by have := h.ownL; omega)
        rw [hd] at K
        exact wrote_new h hs hb hl st K
  · rw [if_neg hs] at K
    exact wrote_no h hs st K
end
end Go.Proofs.YtojfjbbggpfijaaGreatDoor
