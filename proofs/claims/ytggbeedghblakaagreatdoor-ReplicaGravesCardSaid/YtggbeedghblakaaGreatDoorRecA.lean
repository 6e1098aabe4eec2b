/- The replica's recover: what is done again with a record. Printed by mkRecA.py. -/
import Derived.Test.YtggbeedghblakaaGreatDoorRecs
import Derived.Test.YtggbeedghblakaaGreatDoorOpnA
import Derived.Test.YtggbeedghblakaaGreatDoorRepsM
namespace Go.Proofs.YtggbeedghblakaaGreatDoor
open Go.RowKit Go.Qd RepV

section
attribute [local go_sem ↓] execOp_ldAny execOp_stE
variable {W w : World} {R : List HP} {post : Ending → World → Prop} {A : RAd} {r : RepV}

set_option maxRecDepth 100000 in
set_option maxHeartbeats 8000000 in
theorem recover_old {e x : EnV} {q p c : RepV} {a : Option Addr} {n cc : Nat} (h : RepOK r) (hc : checkE e = 0) (hq : r.see e.ac e.az = q) (hp : q.wrote e = p) (hcc : p.buried e = c) (hx : tget c.tab e.key = x) (hb : thas c.tab e.key = true) (hnw : newerB e x = false) (hr : Rds W R 1 a n cc (byC (encE e))) (st : St W w (RepA A r :: R))
    (K : ∀ w', St W w' (RepA A c :: R) → post (.returned (.bool true)) w') :
    Calls Tryz.prog 67 #[.pointer (some ⟨A.p, 0, none⟩), .slice a n cc] w post := by
  have HK := hid K; clear K
  have hQ : RepOK q := by rw [← hq]; exact h.see _ _
  have hP : RepOK p := by rw [← hp]; exact hQ.wrote e
  have hCO : RepOK c := by rw [← hcc]; exact hP.buried e
  have HQO := hid hQ; have HPO := hid hP; have HCO := hid hCO
  have HQ := hid hq; have HP := hid hp; have HB := hid hcc; have HX := hid hx; have HT := hid hb; have HC := hid hc; have HR := hid hr
  have hl : c.tab.length ≤ 4096 := by have := hCO.len; have := hCO.room; omega
  have HL := hid hl
  have hn : n ≤ 1048576 := by
    have := (hr _ st.drop).len
    rw [byC_len, encE_len] at this
    have := (checkE_ok hc).2.1; have := (checkE_ok hc).2.2.1
    omega
  clear h hc hq hp hcc hx hb hQ hP hCO hl hr
  go_enter Tryz.func67, Tryz.ntmps67
  go_upto_region 2 with (first
    | (go_at_call 118; refine decode_c HC.out HR.out.cons hn st ?_; rintro w1 s1; have u1 := s1.alloc EnV.zero.cells.toArray 39; have rS := run_storeG agg_en (b := w1.heap.size) (o := 0) (u1.roomG rfl) (⟨rfl, env_one e⟩ : oneG e.cells 9); have s3 := u1.setAll (vs := e.cells) rfl; have gz := zero_en))
  go_upto_region 4 with (fail)
  have s4 : St W _ (RepA A r :: row w1.heap.size 0 e.cells :: R) := St.pick 1 s3
  clear rS s3 u1 gz
  try simp only [Act.put, List.setIfInBounds_toArray, List.set_cons_succ, List.set_cons_zero]
  have hN_s5 : Nonempty (Cls (fun w' => St W w' (RepA A r :: row w1.heap.size 0 e.cells :: R))) := Cls.inh s4
  have f5_s5 := fun s : Cls (fun w' => St W w' (RepA A r :: row w1.heap.size 0 e.cells :: R)) => (repLd s.h).1
  have gA_s5 := fun s : Cls (fun w' => St W w' (RepA A r :: row w1.heap.size 0 e.cells :: R)) => (enL (St.pick 1 s.h)).2.2.2.2.1
  refine wp_region_class_tail (fun w' => St W w' (RepA A r :: row w1.heap.size 0 e.cells :: R)) 6 (by kernel_rfl) (by kernel_rfl) (St.drew s4) ?_
  simp only [List.take_succ_cons, List.take_zero, List.drop_succ_cons, List.drop_zero]
  repeat (go_big_quiet_step ((fail)))
  clear hN_s5 f5_s5 gA_s5
  refine wpQuiet_nil ?_
  rintro ⟨w5, s5⟩
  dsimp only
  go_upto_region 6 with (first
    | (go_at_call 69; refine see_c (St.pick 1 (RepA.open.1 s5)) ?_; rintro w6 s6; have s7 : St W w6 (RepA A q :: row w1.heap.size 0 e.cells :: R) := (by rw [← HQ.out]; exact see_open (s6.perm [1])); have lE := run_loadG agg_en (vs := e.cells) rfl (St.pick 1 s7).rowAll)
    | (go_at_call 119; refine wrote_c HQO.out s7 ?_; rintro w8 s8; rw [HP.out] at s8))
  try simp only [Act.put, List.setIfInBounds_toArray, List.set_cons_succ, List.set_cons_zero]
  have hN_s9 : Nonempty (Cls (fun w' => St W w' (RepA A p :: row w1.heap.size 0 e.cells :: R))) := Cls.inh s8
  have f6_s9 := fun s : Cls (fun w' => St W w' (RepA A p :: row w1.heap.size 0 e.cells :: R)) => (repLd s.h).2.2.2.2.1
  have gA_s9 := fun s : Cls (fun w' => St W w' (RepA A p :: row w1.heap.size 0 e.cells :: R)) => (enL (St.pick 1 s.h)).2.2.2.2.2.2.2
  refine wp_region_class_tail (fun w' => St W w' (RepA A p :: row w1.heap.size 0 e.cells :: R)) 5 (by kernel_rfl) (by kernel_rfl) (St.drew s8) ?_
  simp only [List.take_succ_cons, List.take_zero, List.drop_succ_cons, List.drop_zero]
  repeat (go_big_quiet_step ((fail)))
  clear hN_s9 f6_s9 gA_s9
  refine wpQuiet_nil ?_
  rintro ⟨w9, s9⟩
  dsimp only
  go_upto_region 7 with (go_at_call 120; refine bury_c HPO.out.site HPO.out.gr HPO.out.grL HPO.out.grK ((RepA.open.1 s9).perm [5, 5]) ?_; rintro va wa sa; have sb : St W wa (RepA A c :: row w1.heap.size 0 e.cells :: R) := (by rw [← HB.out]; exact RepA.open.2 (sa.perm [2, 2, 2, 2, 2, 0, 0])))
  go_cut [7, 8] (fun pp v wx => ∃ U, pp = .pointer (some ⟨U, 0, none⟩) ∧ v = .bool true ∧ St W wx (RepA A c :: row U 0 x.cells :: row w1.heap.size 0 e.cells :: R))
  case first =>
    have u : St W wa.drew (RepA A c :: row w1.heap.size 0 e.cells :: R) := sb.drew
    have gA := And.intro (repLd u).2.1 (enL (St.pick 1 u)).1
    have u2 := (sb.alloc EnV.zero.cells.toArray 39).drew
    have gB := And.intro (repLd (St.pick 1 u2)).2.1 (enL (St.pick 2 u2)).1
    have gz := zero_en
    have hone : oneG x.cells 9 := ⟨rfl, env_one _⟩
    go_region_held3 (fun w' => (loadG 77 (.pointer (some ⟨A.p, 7, none⟩))).run Tryz.prog w' = .ok (.pointer (some ⟨A.tb, 0, none⟩)) w' ∧ (loadG 9 (.pointer (some ⟨w1.heap.size, 0, none⟩))).run Tryz.prog w' = .ok (.string e.key) w')
      (first
        | with_reducible exact gE
        | with_reducible exact gD
        | with_reducible exact gC
        | with_reducible exact gB
        | with_reducible exact gA)
      (first
        | (go_at_call 70; first
            | (refine getE_c HCO.out.tab HL.out (St.pick 2 (RepA.open.1 u)) ?_; rintro w5 t5; rw [HT.out, HX.out]; have s5 : St W w5 (RepA A c :: row w1.heap.size 0 e.cells :: R) := RepA.open.2 (t5.perm [1, 1]); have gC := And.intro (repLd s5).2.1 (enL (St.pick 1 s5)).1; have u5 := s5.alloc EnV.zero.cells.toArray 39; have gD := And.intro (repLd (St.pick 1 u5)).2.1 (enL (St.pick 2 u5)).1; have rB := run_storeG agg_en (b := w5.heap.size) (o := 0) (u5.roomG rfl) hone; have u6 := u5.setAll (vs := x.cells) rfl; have gE := And.intro (repLd (St.pick 1 u6)).2.1 (enL (St.pick 2 u6)).1)
            | (refine getE_c HCO.out.tab HL.out (St.pick 2 (RepA.open.1 (St.pick 1 u2))) ?_; rintro w5 t5; rw [HT.out, HX.out]; have s5 : St W w5 (row wa.heap.size 0 EnV.zero.cells :: RepA A c :: row w1.heap.size 0 e.cells :: R) := St.pick 1 (RepA.open.2 (t5.perm [1, 1])); have gC := And.intro (repLd (St.pick 1 s5)).2.1 (enL (St.pick 2 s5)).1; have rB := run_storeG agg_en (b := wa.heap.size) (o := 0) (s5.roomG rfl) hone; have u6 := s5.setAll (vs := x.cells) rfl; have gE := And.intro (repLd (St.pick 1 u6)).2.1 (enL (St.pick 2 u6)).1)))
    all_goals
      go_wp2_with fail
      go_meet
      case rel => exact ⟨_, rfl, rfl, St.pick 1 u6⟩
  case rest =>
  obtain ⟨U, rfl, rfl, sc⟩ := hcut
  have lX := run_loadG agg_en (vs := x.cells) rfl (St.pick 1 sc).rowAll
  have lE3 := run_loadG agg_en (vs := e.cells) rfl (St.pick 2 sc).rowAll
  have HN := hid hnw
  clear hnw
  go_wp2_with (first
    | (go_at_call 71; refine newer_c sc ?_; rintro wd sd; rw [HN.out]; have lE4 := run_loadG agg_en (vs := e.cells) rfl (St.pick 2 sd).rowAll))
  exact HK.out _ (((sd.perm [1, 1]).dropN 2))

set_option maxRecDepth 100000 in
set_option maxHeartbeats 8000000 in
theorem recover_has {e x : EnV} {q p c : RepV} {a : Option Addr} {n cc : Nat} (h : RepOK r) (hc : checkE e = 0) (hq : r.see e.ac e.az = q) (hp : q.wrote e = p) (hcc : p.buried e = c) (hx : tget c.tab e.key = x) (hb : thas c.tab e.key = true) (hnw : newerB e x = true) (hr : Rds W R 1 a n cc (byC (encE e))) (st : St W w (RepA A r :: R))
    (K : ∀ w', St W w' (RepA A (c.placed e) :: R) → post (.returned (.bool true)) w') :
    Calls Tryz.prog 67 #[.pointer (some ⟨A.p, 0, none⟩), .slice a n cc] w post := by
  have HK := hid K; clear K
  have hQ : RepOK q := by rw [← hq]; exact h.see _ _
  have hP : RepOK p := by rw [← hp]; exact hQ.wrote e
  have hCO : RepOK c := by rw [← hcc]; exact hP.buried e
  have HQO := hid hQ; have HPO := hid hP; have HCO := hid hCO
  have HQ := hid hq; have HP := hid hp; have HB := hid hcc; have HX := hid hx; have HT := hid hb; have HC := hid hc; have HR := hid hr
  have hl : c.tab.length ≤ 4096 := by have := hCO.len; have := hCO.room; omega
  have HL := hid hl
  have hn : n ≤ 1048576 := by
    have := (hr _ st.drop).len
    rw [byC_len, encE_len] at this
    have := (checkE_ok hc).2.1; have := (checkE_ok hc).2.2.1
    omega
  clear h hc hq hp hcc hx hb hQ hP hCO hl hr
  go_enter Tryz.func67, Tryz.ntmps67
  go_upto_region 2 with (first
    | (go_at_call 118; refine decode_c HC.out HR.out.cons hn st ?_; rintro w1 s1; have u1 := s1.alloc EnV.zero.cells.toArray 39; have rS := run_storeG agg_en (b := w1.heap.size) (o := 0) (u1.roomG rfl) (⟨rfl, env_one e⟩ : oneG e.cells 9); have s3 := u1.setAll (vs := e.cells) rfl; have gz := zero_en))
  go_upto_region 4 with (fail)
  have s4 : St W _ (RepA A r :: row w1.heap.size 0 e.cells :: R) := St.pick 1 s3
  clear rS s3 u1 gz
  try simp only [Act.put, List.setIfInBounds_toArray, List.set_cons_succ, List.set_cons_zero]
  have hN_s5 : Nonempty (Cls (fun w' => St W w' (RepA A r :: row w1.heap.size 0 e.cells :: R))) := Cls.inh s4
  have f5_s5 := fun s : Cls (fun w' => St W w' (RepA A r :: row w1.heap.size 0 e.cells :: R)) => (repLd s.h).1
  have gA_s5 := fun s : Cls (fun w' => St W w' (RepA A r :: row w1.heap.size 0 e.cells :: R)) => (enL (St.pick 1 s.h)).2.2.2.2.1
  refine wp_region_class_tail (fun w' => St W w' (RepA A r :: row w1.heap.size 0 e.cells :: R)) 6 (by kernel_rfl) (by kernel_rfl) (St.drew s4) ?_
  simp only [List.take_succ_cons, List.take_zero, List.drop_succ_cons, List.drop_zero]
  repeat (go_big_quiet_step ((fail)))
  clear hN_s5 f5_s5 gA_s5
  refine wpQuiet_nil ?_
  rintro ⟨w5, s5⟩
  dsimp only
  go_upto_region 6 with (first
    | (go_at_call 69; refine see_c (St.pick 1 (RepA.open.1 s5)) ?_; rintro w6 s6; have s7 : St W w6 (RepA A q :: row w1.heap.size 0 e.cells :: R) := (by rw [← HQ.out]; exact see_open (s6.perm [1])); have lE := run_loadG agg_en (vs := e.cells) rfl (St.pick 1 s7).rowAll)
    | (go_at_call 119; refine wrote_c HQO.out s7 ?_; rintro w8 s8; rw [HP.out] at s8))
  try simp only [Act.put, List.setIfInBounds_toArray, List.set_cons_succ, List.set_cons_zero]
  have hN_s9 : Nonempty (Cls (fun w' => St W w' (RepA A p :: row w1.heap.size 0 e.cells :: R))) := Cls.inh s8
  have f6_s9 := fun s : Cls (fun w' => St W w' (RepA A p :: row w1.heap.size 0 e.cells :: R)) => (repLd s.h).2.2.2.2.1
  have gA_s9 := fun s : Cls (fun w' => St W w' (RepA A p :: row w1.heap.size 0 e.cells :: R)) => (enL (St.pick 1 s.h)).2.2.2.2.2.2.2
  refine wp_region_class_tail (fun w' => St W w' (RepA A p :: row w1.heap.size 0 e.cells :: R)) 5 (by kernel_rfl) (by kernel_rfl) (St.drew s8) ?_
  simp only [List.take_succ_cons, List.take_zero, List.drop_succ_cons, List.drop_zero]
  repeat (go_big_quiet_step ((fail)))
  clear hN_s9 f6_s9 gA_s9
  refine wpQuiet_nil ?_
  rintro ⟨w9, s9⟩
  dsimp only
  go_upto_region 7 with (go_at_call 120; refine bury_c HPO.out.site HPO.out.gr HPO.out.grL HPO.out.grK ((RepA.open.1 s9).perm [5, 5]) ?_; rintro va wa sa; have sb : St W wa (RepA A c :: row w1.heap.size 0 e.cells :: R) := (by rw [← HB.out]; exact RepA.open.2 (sa.perm [2, 2, 2, 2, 2, 0, 0])))
  go_cut [7, 8] (fun pp v wx => ∃ U, pp = .pointer (some ⟨U, 0, none⟩) ∧ v = .bool true ∧ St W wx (RepA A c :: row U 0 x.cells :: row w1.heap.size 0 e.cells :: R))
  case first =>
    have u : St W wa.drew (RepA A c :: row w1.heap.size 0 e.cells :: R) := sb.drew
    have gA := And.intro (repLd u).2.1 (enL (St.pick 1 u)).1
    have u2 := (sb.alloc EnV.zero.cells.toArray 39).drew
    have gB := And.intro (repLd (St.pick 1 u2)).2.1 (enL (St.pick 2 u2)).1
    have gz := zero_en
    have hone : oneG x.cells 9 := ⟨rfl, env_one _⟩
    go_region_held3 (fun w' => (loadG 77 (.pointer (some ⟨A.p, 7, none⟩))).run Tryz.prog w' = .ok (.pointer (some ⟨A.tb, 0, none⟩)) w' ∧ (loadG 9 (.pointer (some ⟨w1.heap.size, 0, none⟩))).run Tryz.prog w' = .ok (.string e.key) w')
      (first
        | with_reducible exact gE
        | with_reducible exact gD
        | with_reducible exact gC
        | with_reducible exact gB
        | with_reducible exact gA)
      (first
        | (go_at_call 70; first
            | (refine getE_c HCO.out.tab HL.out (St.pick 2 (RepA.open.1 u)) ?_; rintro w5 t5; rw [HT.out, HX.out]; have s5 : St W w5 (RepA A c :: row w1.heap.size 0 e.cells :: R) := RepA.open.2 (t5.perm [1, 1]); have gC := And.intro (repLd s5).2.1 (enL (St.pick 1 s5)).1; have u5 := s5.alloc EnV.zero.cells.toArray 39; have gD := And.intro (repLd (St.pick 1 u5)).2.1 (enL (St.pick 2 u5)).1; have rB := run_storeG agg_en (b := w5.heap.size) (o := 0) (u5.roomG rfl) hone; have u6 := u5.setAll (vs := x.cells) rfl; have gE := And.intro (repLd (St.pick 1 u6)).2.1 (enL (St.pick 2 u6)).1)
            | (refine getE_c HCO.out.tab HL.out (St.pick 2 (RepA.open.1 (St.pick 1 u2))) ?_; rintro w5 t5; rw [HT.out, HX.out]; have s5 : St W w5 (row wa.heap.size 0 EnV.zero.cells :: RepA A c :: row w1.heap.size 0 e.cells :: R) := St.pick 1 (RepA.open.2 (t5.perm [1, 1])); have gC := And.intro (repLd (St.pick 1 s5)).2.1 (enL (St.pick 2 s5)).1; have rB := run_storeG agg_en (b := wa.heap.size) (o := 0) (s5.roomG rfl) hone; have u6 := s5.setAll (vs := x.cells) rfl; have gE := And.intro (repLd (St.pick 1 u6)).2.1 (enL (St.pick 2 u6)).1)))
    all_goals
      go_wp2_with fail
      go_meet
      case rel => exact ⟨_, rfl, rfl, St.pick 1 u6⟩
  case rest =>
  obtain ⟨U, rfl, rfl, sc⟩ := hcut
  have lX := run_loadG agg_en (vs := x.cells) rfl (St.pick 1 sc).rowAll
  have lE3 := run_loadG agg_en (vs := e.cells) rfl (St.pick 2 sc).rowAll
  have HN := hid hnw
  clear hnw
  go_wp2_with (first
    | (go_at_call 71; refine newer_c sc ?_; rintro wd sd; rw [HN.out]; have lE4 := run_loadG agg_en (vs := e.cells) rfl (St.pick 2 sd).rowAll)
    | (go_at_call 121; refine place_has HCO.out HT.out sd ?_; rintro we se))
  exact HK.out _ ((se.perm [1, 1]).dropN 2)

set_option maxRecDepth 100000 in
set_option maxHeartbeats 8000000 in
theorem recover_new {e x : EnV} {q p c : RepV} {a : Option Addr} {n cc : Nat} (h : RepOK r) (hc : checkE e = 0) (hq : r.see e.ac e.az = q) (hp : q.wrote e = p) (hcc : p.buried e = c) (hx : tget c.tab e.key = x) (hb : thas c.tab e.key = false) (hroom : (c.tab.length : Int) < c.room) (hr : Rds W R 1 a n cc (byC (encE e))) (st : St W w (RepA A r :: R))
    (K : ∀ w', St W w' (RepA A (c.placed e) :: R) → post (.returned (.bool true)) w') :
    Calls Tryz.prog 67 #[.pointer (some ⟨A.p, 0, none⟩), .slice a n cc] w post := by
  have HK := hid K; clear K
  have hQ : RepOK q := by rw [← hq]; exact h.see _ _
  have hP : RepOK p := by rw [← hp]; exact hQ.wrote e
  have hCO : RepOK c := by rw [← hcc]; exact hP.buried e
  have HQO := hid hQ; have HPO := hid hP; have HCO := hid hCO
  have HQ := hid hq; have HP := hid hp; have HB := hid hcc; have HX := hid hx; have HT := hid hb; have HC := hid hc; have HR := hid hr
  have hl : c.tab.length ≤ 4096 := by have := hCO.len; have := hCO.room; omega
  have HL := hid hl
  have hn : n ≤ 1048576 := by
    have := (hr _ st.drop).len
    rw [byC_len, encE_len] at this
    have := (checkE_ok hc).2.1; have := (checkE_ok hc).2.2.1
    omega
  clear h hc hq hp hcc hx hb hQ hP hCO hl hr
  go_enter Tryz.func67, Tryz.ntmps67
  go_upto_region 2 with (first
    | (go_at_call 118; refine decode_c HC.out HR.out.cons hn st ?_; rintro w1 s1; have u1 := s1.alloc EnV.zero.cells.toArray 39; have rS := run_storeG agg_en (b := w1.heap.size) (o := 0) (u1.roomG rfl) (⟨rfl, env_one e⟩ : oneG e.cells 9); have s3 := u1.setAll (vs := e.cells) rfl; have gz := zero_en))
  go_upto_region 4 with (fail)
  have s4 : St W _ (RepA A r :: row w1.heap.size 0 e.cells :: R) := St.pick 1 s3
  clear rS s3 u1 gz
  try simp only [Act.put, List.setIfInBounds_toArray, List.set_cons_succ, List.set_cons_zero]
  have hN_s5 : Nonempty (Cls (fun w' => St W w' (RepA A r :: row w1.heap.size 0 e.cells :: R))) := Cls.inh s4
  have f5_s5 := fun s : Cls (fun w' => St W w' (RepA A r :: row w1.heap.size 0 e.cells :: R)) => (repLd s.h).1
  have gA_s5 := fun s : Cls (fun w' => St W w' (RepA A r :: row w1.heap.size 0 e.cells :: R)) => (enL (St.pick 1 s.h)).2.2.2.2.1
  refine wp_region_class_tail (fun w' => St W w' (RepA A r :: row w1.heap.size 0 e.cells :: R)) 6 (by kernel_rfl) (by kernel_rfl) (St.drew s4) ?_
  simp only [List.take_succ_cons, List.take_zero, List.drop_succ_cons, List.drop_zero]
  repeat (go_big_quiet_step ((fail)))
  clear hN_s5 f5_s5 gA_s5
  refine wpQuiet_nil ?_
  rintro ⟨w5, s5⟩
  dsimp only
  go_upto_region 6 with (first
    | (go_at_call 69; refine see_c (St.pick 1 (RepA.open.1 s5)) ?_; rintro w6 s6; have s7 : St W w6 (RepA A q :: row w1.heap.size 0 e.cells :: R) := (by rw [← HQ.out]; exact see_open (s6.perm [1])); have lE := run_loadG agg_en (vs := e.cells) rfl (St.pick 1 s7).rowAll)
    | (go_at_call 119; refine wrote_c HQO.out s7 ?_; rintro w8 s8; rw [HP.out] at s8))
  try simp only [Act.put, List.setIfInBounds_toArray, List.set_cons_succ, List.set_cons_zero]
  have hN_s9 : Nonempty (Cls (fun w' => St W w' (RepA A p :: row w1.heap.size 0 e.cells :: R))) := Cls.inh s8
  have f6_s9 := fun s : Cls (fun w' => St W w' (RepA A p :: row w1.heap.size 0 e.cells :: R)) => (repLd s.h).2.2.2.2.1
  have gA_s9 := fun s : Cls (fun w' => St W w' (RepA A p :: row w1.heap.size 0 e.cells :: R)) => (enL (St.pick 1 s.h)).2.2.2.2.2.2.2
  refine wp_region_class_tail (fun w' => St W w' (RepA A p :: row w1.heap.size 0 e.cells :: R)) 5 (by kernel_rfl) (by kernel_rfl) (St.drew s8) ?_
  simp only [List.take_succ_cons, List.take_zero, List.drop_succ_cons, List.drop_zero]
  repeat (go_big_quiet_step ((fail)))
  clear hN_s9 f6_s9 gA_s9
  refine wpQuiet_nil ?_
  rintro ⟨w9, s9⟩
  dsimp only
  go_upto_region 7 with (go_at_call 120; refine bury_c HPO.out.site HPO.out.gr HPO.out.grL HPO.out.grK ((RepA.open.1 s9).perm [5, 5]) ?_; rintro va wa sa; have sb : St W wa (RepA A c :: row w1.heap.size 0 e.cells :: R) := (by rw [← HB.out]; exact RepA.open.2 (sa.perm [2, 2, 2, 2, 2, 0, 0])))
  go_cut [7, 8] (fun pp v wx => ∃ U, pp = .pointer (some ⟨U, 0, none⟩) ∧ v = .bool false ∧ St W wx (RepA A c :: row U 0 x.cells :: row w1.heap.size 0 e.cells :: R))
  case first =>
    have u : St W wa.drew (RepA A c :: row w1.heap.size 0 e.cells :: R) := sb.drew
    have gA := And.intro (repLd u).2.1 (enL (St.pick 1 u)).1
    have u2 := (sb.alloc EnV.zero.cells.toArray 39).drew
    have gB := And.intro (repLd (St.pick 1 u2)).2.1 (enL (St.pick 2 u2)).1
    have gz := zero_en
    have hone : oneG x.cells 9 := ⟨rfl, env_one _⟩
    go_region_held3 (fun w' => (loadG 77 (.pointer (some ⟨A.p, 7, none⟩))).run Tryz.prog w' = .ok (.pointer (some ⟨A.tb, 0, none⟩)) w' ∧ (loadG 9 (.pointer (some ⟨w1.heap.size, 0, none⟩))).run Tryz.prog w' = .ok (.string e.key) w')
      (first
        | with_reducible exact gE
        | with_reducible exact gD
        | with_reducible exact gC
        | with_reducible exact gB
        | with_reducible exact gA)
      (first
        | (go_at_call 70; first
            | (refine getE_c HCO.out.tab HL.out (St.pick 2 (RepA.open.1 u)) ?_; rintro w5 t5; rw [HT.out, HX.out]; have s5 : St W w5 (RepA A c :: row w1.heap.size 0 e.cells :: R) := RepA.open.2 (t5.perm [1, 1]); have gC := And.intro (repLd s5).2.1 (enL (St.pick 1 s5)).1; have u5 := s5.alloc EnV.zero.cells.toArray 39; have gD := And.intro (repLd (St.pick 1 u5)).2.1 (enL (St.pick 2 u5)).1; have rB := run_storeG agg_en (b := w5.heap.size) (o := 0) (u5.roomG rfl) hone; have u6 := u5.setAll (vs := x.cells) rfl; have gE := And.intro (repLd (St.pick 1 u6)).2.1 (enL (St.pick 2 u6)).1)
            | (refine getE_c HCO.out.tab HL.out (St.pick 2 (RepA.open.1 (St.pick 1 u2))) ?_; rintro w5 t5; rw [HT.out, HX.out]; have s5 : St W w5 (row wa.heap.size 0 EnV.zero.cells :: RepA A c :: row w1.heap.size 0 e.cells :: R) := St.pick 1 (RepA.open.2 (t5.perm [1, 1])); have gC := And.intro (repLd (St.pick 1 s5)).2.1 (enL (St.pick 2 s5)).1; have rB := run_storeG agg_en (b := wa.heap.size) (o := 0) (s5.roomG rfl) hone; have u6 := s5.setAll (vs := x.cells) rfl; have gE := And.intro (repLd (St.pick 1 u6)).2.1 (enL (St.pick 2 u6)).1)))
    all_goals
      go_wp2_with fail
      go_meet
      case rel => exact ⟨_, rfl, rfl, St.pick 1 u6⟩
  case rest =>
  obtain ⟨U, rfl, rfl, sc⟩ := hcut
  have lX := run_loadG agg_en (vs := x.cells) rfl (St.pick 1 sc).rowAll
  have lE3 := run_loadG agg_en (vs := e.cells) rfl (St.pick 2 sc).rowAll
  have HRM := hid hroom
  clear hroom
  go_wp2_with (first
    | (go_at_call 121; refine place_new HCO.out HT.out HRM.out sc ?_; rintro we se))
  exact HK.out _ ((se.perm [1, 1]).dropN 2)

set_option maxRecDepth 100000 in
set_option maxHeartbeats 8000000 in
theorem recover_full {e x : EnV} {q p c : RepV} {a : Option Addr} {n cc : Nat} (h : RepOK r) (hc : checkE e = 0) (hq : r.see e.ac e.az = q) (hp : q.wrote e = p) (hcc : p.buried e = c) (hx : tget c.tab e.key = x) (hb : thas c.tab e.key = false) (hroom : (c.tab.length : Int) = c.room) (hr : Rds W R 1 a n cc (byC (encE e))) (st : St W w (RepA A r :: R))
    (K : ∀ w', St W w' (DskH A.d r.d :: R) → post (.returned (.bool false)) w') :
    Calls Tryz.prog 67 #[.pointer (some ⟨A.p, 0, none⟩), .slice a n cc] w post := by
  have HK := hid K; clear K
  have hQ : RepOK q := by rw [← hq]; exact h.see _ _
  have hP : RepOK p := by rw [← hp]; exact hQ.wrote e
  have hCO : RepOK c := by rw [← hcc]; exact hP.buried e
  have HQO := hid hQ; have HPO := hid hP; have HCO := hid hCO
  have HQ := hid hq; have HP := hid hp; have HB := hid hcc; have HX := hid hx; have HT := hid hb; have HC := hid hc; have HR := hid hr
  have hl : c.tab.length ≤ 4096 := by have := hCO.len; have := hCO.room; omega
  have HL := hid hl
  have hn : n ≤ 1048576 := by
    have := (hr _ st.drop).len
    rw [byC_len, encE_len] at this
    have := (checkE_ok hc).2.1; have := (checkE_ok hc).2.2.1
    omega
  clear h hc hq hp hcc hx hb hQ hP hCO hl hr
  go_enter Tryz.func67, Tryz.ntmps67
  go_upto_region 2 with (first
    | (go_at_call 118; refine decode_c HC.out HR.out.cons hn st ?_; rintro w1 s1; have u1 := s1.alloc EnV.zero.cells.toArray 39; have rS := run_storeG agg_en (b := w1.heap.size) (o := 0) (u1.roomG rfl) (⟨rfl, env_one e⟩ : oneG e.cells 9); have s3 := u1.setAll (vs := e.cells) rfl; have gz := zero_en))
  go_upto_region 4 with (fail)
  have s4 : St W _ (RepA A r :: row w1.heap.size 0 e.cells :: R) := St.pick 1 s3
  clear rS s3 u1 gz
  try simp only [Act.put, List.setIfInBounds_toArray, List.set_cons_succ, List.set_cons_zero]
  have hN_s5 : Nonempty (Cls (fun w' => St W w' (RepA A r :: row w1.heap.size 0 e.cells :: R))) := Cls.inh s4
  have f5_s5 := fun s : Cls (fun w' => St W w' (RepA A r :: row w1.heap.size 0 e.cells :: R)) => (repLd s.h).1
  have gA_s5 := fun s : Cls (fun w' => St W w' (RepA A r :: row w1.heap.size 0 e.cells :: R)) => (enL (St.pick 1 s.h)).2.2.2.2.1
  refine wp_region_class_tail (fun w' => St W w' (RepA A r :: row w1.heap.size 0 e.cells :: R)) 6 (by kernel_rfl) (by kernel_rfl) (St.drew s4) ?_
  simp only [List.take_succ_cons, List.take_zero, List.drop_succ_cons, List.drop_zero]
  repeat (go_big_quiet_step ((fail)))
  clear hN_s5 f5_s5 gA_s5
  refine wpQuiet_nil ?_
  rintro ⟨w5, s5⟩
  dsimp only
  go_upto_region 6 with (first
    | (go_at_call 69; refine see_c (St.pick 1 (RepA.open.1 s5)) ?_; rintro w6 s6; have s7 : St W w6 (RepA A q :: row w1.heap.size 0 e.cells :: R) := (by rw [← HQ.out]; exact see_open (s6.perm [1])); have lE := run_loadG agg_en (vs := e.cells) rfl (St.pick 1 s7).rowAll)
    | (go_at_call 119; refine wrote_c HQO.out s7 ?_; rintro w8 s8; rw [HP.out] at s8))
  try simp only [Act.put, List.setIfInBounds_toArray, List.set_cons_succ, List.set_cons_zero]
  have hN_s9 : Nonempty (Cls (fun w' => St W w' (RepA A p :: row w1.heap.size 0 e.cells :: R))) := Cls.inh s8
  have f6_s9 := fun s : Cls (fun w' => St W w' (RepA A p :: row w1.heap.size 0 e.cells :: R)) => (repLd s.h).2.2.2.2.1
  have gA_s9 := fun s : Cls (fun w' => St W w' (RepA A p :: row w1.heap.size 0 e.cells :: R)) => (enL (St.pick 1 s.h)).2.2.2.2.2.2.2
  refine wp_region_class_tail (fun w' => St W w' (RepA A p :: row w1.heap.size 0 e.cells :: R)) 5 (by kernel_rfl) (by kernel_rfl) (St.drew s8) ?_
  simp only [List.take_succ_cons, List.take_zero, List.drop_succ_cons, List.drop_zero]
  repeat (go_big_quiet_step ((fail)))
  clear hN_s9 f6_s9 gA_s9
  refine wpQuiet_nil ?_
  rintro ⟨w9, s9⟩
  dsimp only
  go_upto_region 7 with (go_at_call 120; refine bury_c HPO.out.site HPO.out.gr HPO.out.grL HPO.out.grK ((RepA.open.1 s9).perm [5, 5]) ?_; rintro va wa sa; have sb : St W wa (RepA A c :: row w1.heap.size 0 e.cells :: R) := (by rw [← HB.out]; exact RepA.open.2 (sa.perm [2, 2, 2, 2, 2, 0, 0])))
  go_cut [7, 8] (fun pp v wx => ∃ U, pp = .pointer (some ⟨U, 0, none⟩) ∧ v = .bool false ∧ St W wx (RepA A c :: row U 0 x.cells :: row w1.heap.size 0 e.cells :: R))
  case first =>
    have u : St W wa.drew (RepA A c :: row w1.heap.size 0 e.cells :: R) := sb.drew
    have gA := And.intro (repLd u).2.1 (enL (St.pick 1 u)).1
    have u2 := (sb.alloc EnV.zero.cells.toArray 39).drew
    have gB := And.intro (repLd (St.pick 1 u2)).2.1 (enL (St.pick 2 u2)).1
    have gz := zero_en
    have hone : oneG x.cells 9 := ⟨rfl, env_one _⟩
    go_region_held3 (fun w' => (loadG 77 (.pointer (some ⟨A.p, 7, none⟩))).run Tryz.prog w' = .ok (.pointer (some ⟨A.tb, 0, none⟩)) w' ∧ (loadG 9 (.pointer (some ⟨w1.heap.size, 0, none⟩))).run Tryz.prog w' = .ok (.string e.key) w')
      (first
        | with_reducible exact gE
        | with_reducible exact gD
        | with_reducible exact gC
        | with_reducible exact gB
        | with_reducible exact gA)
      (first
        | (go_at_call 70; first
            | (refine getE_c HCO.out.tab HL.out (St.pick 2 (RepA.open.1 u)) ?_; rintro w5 t5; rw [HT.out, HX.out]; have s5 : St W w5 (RepA A c :: row w1.heap.size 0 e.cells :: R) := RepA.open.2 (t5.perm [1, 1]); have gC := And.intro (repLd s5).2.1 (enL (St.pick 1 s5)).1; have u5 := s5.alloc EnV.zero.cells.toArray 39; have gD := And.intro (repLd (St.pick 1 u5)).2.1 (enL (St.pick 2 u5)).1; have rB := run_storeG agg_en (b := w5.heap.size) (o := 0) (u5.roomG rfl) hone; have u6 := u5.setAll (vs := x.cells) rfl; have gE := And.intro (repLd (St.pick 1 u6)).2.1 (enL (St.pick 2 u6)).1)
            | (refine getE_c HCO.out.tab HL.out (St.pick 2 (RepA.open.1 (St.pick 1 u2))) ?_; rintro w5 t5; rw [HT.out, HX.out]; have s5 : St W w5 (row wa.heap.size 0 EnV.zero.cells :: RepA A c :: row w1.heap.size 0 e.cells :: R) := St.pick 1 (RepA.open.2 (t5.perm [1, 1])); have gC := And.intro (repLd (St.pick 1 s5)).2.1 (enL (St.pick 2 s5)).1; have rB := run_storeG agg_en (b := wa.heap.size) (o := 0) (s5.roomG rfl) hone; have u6 := s5.setAll (vs := x.cells) rfl; have gE := And.intro (repLd (St.pick 1 u6)).2.1 (enL (St.pick 2 u6)).1)))
    all_goals
      go_wp2_with fail
      go_meet
      case rel => exact ⟨_, rfl, rfl, St.pick 1 u6⟩
  case rest =>
  obtain ⟨U, rfl, rfl, sc⟩ := hcut
  have lX := run_loadG agg_en (vs := x.cells) rfl (St.pick 1 sc).rowAll
  have lE3 := run_loadG agg_en (vs := e.cells) rfl (St.pick 2 sc).rowAll
  have HRM := hid hroom
  clear hroom
  go_wp2_with (first
    | (go_at_call 121; refine place_full HCO.out HT.out HRM.out sc ?_; rintro we se))
  have hcd : c.d = r.d := by rw [← HB.out, ← HP.out, ← HQ.out]; exact (noted_same r e).2.2.2.2.2.2.2.1
  have sd := RepA.disk se
  rw [hcd] at sd
  exact HK.out _ ((sd.perm [1, 1]).dropN 2)

/-- A record is gone through again. -/
theorem recovers {e : EnV} (hc : checkE e = 0) : Recovers e := by
  intro W w R post A r a n c h hr st K1 K0
  obtain ⟨h1, h2, h3, _⟩ := noted_same r e
  have hrm : (r.noted e).room = r.room := by unfold RepV.room; rw [h2, h3]
  cases hb : thas r.tab e.key with
  | true =>
    have hb' : thas (r.noted e).tab e.key = true := by rw [h1]; exact hb
    cases hn : newerB e (tget r.tab e.key) with
    | false =>
      have ho : r.recOld e = true := by unfold RepV.recOld; rw [hb, hn]; rfl
      refine recover_old h hc rfl rfl rfl rfl hb' (by show newerB e (tget (r.noted e).tab e.key) = _; rw [h1]; exact hn) hr st ?_
      have := K1 (by unfold RepV.recOK; rw [ho]; rfl)
      unfold RepV.rec1 at this
      rw [if_pos ho] at this
      exact this
    | true =>
      have ho : ¬ r.recOld e = true := by unfold RepV.recOld; rw [hb, hn]; decide
      refine recover_has h hc rfl rfl rfl rfl hb' (by show newerB e (tget (r.noted e).tab e.key) = _; rw [h1]; exact hn) hr st ?_
      have := K1 (by unfold RepV.recOK RepV.roomB; rw [hb]; simp)
      unfold RepV.rec1 at this
      rw [if_neg ho] at this
      exact this
  | false =>
    have hb' : thas (r.noted e).tab e.key = false := by rw [h1]; exact hb
    have ho : ¬ r.recOld e = true := by unfold RepV.recOld; rw [hb]; simp
    by_cases hro : (r.tab.length : Int) < r.room
    · refine recover_new h hc rfl rfl rfl rfl hb' (by show ((r.noted e).tab.length : Int) < (r.noted e).room; rw [h1, hrm]; exact hro) hr st ?_
      have := K1 (by unfold RepV.recOK RepV.roomB; rw [decide_eq_true hro]; simp)
      unfold RepV.rec1 at this
      rw [if_neg ho] at this
      exact this
    · refine recover_full h hc rfl rfl rfl rfl hb' (by show ((r.noted e).tab.length : Int) = (r.noted e).room; rw [h1, hrm]; have := h.len; omega) hr st ?_
      exact K0 (by unfold RepV.recOK RepV.roomB; rw [hb, decide_eq_false hro]; simp [ho])
end
end Go.Proofs.YtggbeedghblakaaGreatDoor
