/- Graves: Bury. Printed by mkGraE.py. -/
import Derived.Test.YtojfjbbggpfijaaGreatDoorGras
import Derived.Deep.DeepCutAuto
import Derived.Deep.RegionHeld3
namespace Go.Proofs.YtojfjbbggpfijaaGreatDoor
open Go.RowKit Go.Qd

section
attribute [local go_sem ↓] execOp_ldAny execOp_stE execOp_eqE
variable {W w : World} {R : List HP} {post : Ending → World → Prop} {g gp : Nat} {site t2 : Int} {l : List KE}

set_option maxRecDepth 100000 in
set_option maxHeartbeats 4000000 in
theorem bury_chk {e : EnV} (hi : 0 ≤ site ∧ site < 12) (hs : TSrt l) (hn : l.length ≤ 4096) (hc : ¬ checkE e = 0) (st : St W w (row g 0 [ptrV gp, .int .i64 site, .int .i64 t2] :: TabE gp 0 4096 l :: R))
    (K : ∀ v w', St W w' (row g 0 [ptrV gp, .int .i64 site, .int .i64 t2] :: TabE gp 0 4096 l :: R) → post (.returned (.bool v)) w') :
    Calls Tryz.prog 118 #[.pointer (some ⟨g, 0, none⟩), .agg e.cells.toArray] w post := by
  have HK := hid K; clear K
  have HI := hid hi; have HS := hid hs; have HL := hid hn
  clear hi hs hn
  obtain ⟨c, hcc⟩ : ∃ c, checkE e = c := ⟨_, rfl⟩
  have HC := hid hcc
  have hd : (c != 0) = true := by rw [← hcc]; simp [hc]
  clear hc hcc
  go_enter Tryz.func118, Tryz.ntmps118
  go_wp2_with (refine wpl_boxA (vs := e.cells) rfl (.tmp 1) rfl rfl st ?_; rintro T w1 s1)
  have s2 : St W w1 (row g 0 [ptrV gp, .int .i64 site, .int .i64 t2] :: TabE gp 0 4096 l :: row T 0 e.cells :: R) := s1.perm [1, 1]
  try simp only [Act.put, List.setIfInBounds_toArray, List.set_cons_succ, List.set_cons_zero]
  have hN_s3 : Nonempty (Cls (fun w' => St W w' (row g 0 [ptrV gp, .int .i64 site, .int .i64 t2] :: TabE gp 0 4096 l :: row T 0 e.cells :: R))) := Cls.inh s2
  have gT_s3 := fun s : Cls (fun w' => St W w' (row g 0 [ptrV gp, .int .i64 site, .int .i64 t2] :: TabE gp 0 4096 l :: row T 0 e.cells :: R)) => run_loadG agg_en (vs := e.cells) rfl (St.pick 2 s.h).rowAll
  have g1_s3 := fun s : Cls (fun w' => St W w' (row g 0 [ptrV gp, .int .i64 site, .int .i64 t2] :: TabE gp 0 4096 l :: row T 0 e.cells :: R)) => (graLd s.h).2.1
  have g2_s3 := fun s : Cls (fun w' => St W w' (row g 0 [ptrV gp, .int .i64 site, .int .i64 t2] :: TabE gp 0 4096 l :: row T 0 e.cells :: R)) => (graLd s.h).2.2
  have gA_s3 := fun s : Cls (fun w' => St W w' (row g 0 [ptrV gp, .int .i64 site, .int .i64 t2] :: TabE gp 0 4096 l :: row T 0 e.cells :: R)) => (enL (St.pick 2 s.h)).2.2.2.2.2.2.1
  refine wp_region_class (fun w' => St W w' (row g 0 [ptrV gp, .int .i64 site, .int .i64 t2] :: TabE gp 0 4096 l :: row T 0 e.cells :: R)) (by kernel_rfl) (by kernel_rfl) (St.drew s2) ?_
  repeat (go_big_quiet_step ((rename_i s; first
    | (go_at_call 50; refine check_c s.h ?_; rintro w4 s4; rw [HC.out]; exact Cls.end _ s4))))
  clear hN_s3 gT_s3 g1_s3 g2_s3 gA_s3
  refine wpQuiet_nil ?_
  rintro ⟨w3, s3⟩
  dsimp only
  go_wp2_with fail
  exact HK.out _ _ (St.pick 2 s3).drop

set_option maxRecDepth 100000 in
set_option maxHeartbeats 4000000 in
theorem bury_duty {e : EnV} (hi : 0 ≤ site ∧ site < 12) (hs : TSrt l) (hn : l.length ≤ 4096) (hc : checkE e = 0) (hd : dutyB e site = false) (st : St W w (row g 0 [ptrV gp, .int .i64 site, .int .i64 t2] :: TabE gp 0 4096 l :: R))
    (K : ∀ v w', St W w' (row g 0 [ptrV gp, .int .i64 site, .int .i64 t2] :: TabE gp 0 4096 l :: R) → post (.returned (.bool v)) w') :
    Calls Tryz.prog 118 #[.pointer (some ⟨g, 0, none⟩), .agg e.cells.toArray] w post := by
  have HK := hid K; clear K
  have HI := hid hi; have HS := hid hs; have HL := hid hn
  clear hi hs hn
  have HC := hid hc; have HD := hid hd
  clear hc hd
  go_enter Tryz.func118, Tryz.ntmps118
  go_wp2_with (refine wpl_boxA (vs := e.cells) rfl (.tmp 1) rfl rfl st ?_; rintro T w1 s1)
  have s2 : St W w1 (row g 0 [ptrV gp, .int .i64 site, .int .i64 t2] :: TabE gp 0 4096 l :: row T 0 e.cells :: R) := s1.perm [1, 1]
  try simp only [Act.put, List.setIfInBounds_toArray, List.set_cons_succ, List.set_cons_zero]
  have hN_s3 : Nonempty (Cls (fun w' => St W w' (row g 0 [ptrV gp, .int .i64 site, .int .i64 t2] :: TabE gp 0 4096 l :: row T 0 e.cells :: R))) := Cls.inh s2
  have gT_s3 := fun s : Cls (fun w' => St W w' (row g 0 [ptrV gp, .int .i64 site, .int .i64 t2] :: TabE gp 0 4096 l :: row T 0 e.cells :: R)) => run_loadG agg_en (vs := e.cells) rfl (St.pick 2 s.h).rowAll
  have g1_s3 := fun s : Cls (fun w' => St W w' (row g 0 [ptrV gp, .int .i64 site, .int .i64 t2] :: TabE gp 0 4096 l :: row T 0 e.cells :: R)) => (graLd s.h).2.1
  have g2_s3 := fun s : Cls (fun w' => St W w' (row g 0 [ptrV gp, .int .i64 site, .int .i64 t2] :: TabE gp 0 4096 l :: row T 0 e.cells :: R)) => (graLd s.h).2.2
  have gA_s3 := fun s : Cls (fun w' => St W w' (row g 0 [ptrV gp, .int .i64 site, .int .i64 t2] :: TabE gp 0 4096 l :: row T 0 e.cells :: R)) => (enL (St.pick 2 s.h)).2.2.2.2.2.2.1
  refine wp_region_class (fun w' => St W w' (row g 0 [ptrV gp, .int .i64 site, .int .i64 t2] :: TabE gp 0 4096 l :: row T 0 e.cells :: R)) (by kernel_rfl) (by kernel_rfl) (St.drew s2) ?_
  repeat (go_big_quiet_step ((rename_i s; first
    | (go_at_call 50; refine check_c s.h ?_; rintro w4 s4; rw [HC.out]; exact Cls.end _ s4)
    | (go_at_call 167; refine duty_c HI.out.1 HI.out.2 HC.out s.h ?_; rintro w4 s4; rw [HD.out]; exact Cls.end _ s4))))
  clear hN_s3 gT_s3 g1_s3 g2_s3 gA_s3
  refine wpQuiet_nil ?_
  rintro ⟨w3, s3⟩
  dsimp only
  go_wp2_with fail
  exact HK.out _ _ (St.pick 2 s3).drop

set_option maxRecDepth 100000 in
set_option maxHeartbeats 4000000 in
theorem bury_age {e : EnV} (hi : 0 ≤ site ∧ site < 12) (hs : TSrt l) (hn : l.length ≤ 4096) (hc : checkE e = 0) (hd : dutyB e site = true) (ha : decide (t2 ≤ e.age) = true) (st : St W w (row g 0 [ptrV gp, .int .i64 site, .int .i64 t2] :: TabE gp 0 4096 l :: R))
    (K : ∀ v w', St W w' (row g 0 [ptrV gp, .int .i64 site, .int .i64 t2] :: TabE gp 0 4096 l :: R) → post (.returned (.bool v)) w') :
    Calls Tryz.prog 118 #[.pointer (some ⟨g, 0, none⟩), .agg e.cells.toArray] w post := by
  have HK := hid K; clear K
  have HI := hid hi; have HS := hid hs; have HL := hid hn
  clear hi hs hn
  have HC := hid hc; have HD := hid hd
  clear hc hd
  go_enter Tryz.func118, Tryz.ntmps118
  go_wp2_with (refine wpl_boxA (vs := e.cells) rfl (.tmp 1) rfl rfl st ?_; rintro T w1 s1)
  have s2 : St W w1 (row g 0 [ptrV gp, .int .i64 site, .int .i64 t2] :: TabE gp 0 4096 l :: row T 0 e.cells :: R) := s1.perm [1, 1]
  try simp only [Act.put, List.setIfInBounds_toArray, List.set_cons_succ, List.set_cons_zero]
  have hN_s3 : Nonempty (Cls (fun w' => St W w' (row g 0 [ptrV gp, .int .i64 site, .int .i64 t2] :: TabE gp 0 4096 l :: row T 0 e.cells :: R))) := Cls.inh s2
  have gT_s3 := fun s : Cls (fun w' => St W w' (row g 0 [ptrV gp, .int .i64 site, .int .i64 t2] :: TabE gp 0 4096 l :: row T 0 e.cells :: R)) => run_loadG agg_en (vs := e.cells) rfl (St.pick 2 s.h).rowAll
  have g1_s3 := fun s : Cls (fun w' => St W w' (row g 0 [ptrV gp, .int .i64 site, .int .i64 t2] :: TabE gp 0 4096 l :: row T 0 e.cells :: R)) => (graLd s.h).2.1
  have g2_s3 := fun s : Cls (fun w' => St W w' (row g 0 [ptrV gp, .int .i64 site, .int .i64 t2] :: TabE gp 0 4096 l :: row T 0 e.cells :: R)) => (graLd s.h).2.2
  have gA_s3 := fun s : Cls (fun w' => St W w' (row g 0 [ptrV gp, .int .i64 site, .int .i64 t2] :: TabE gp 0 4096 l :: row T 0 e.cells :: R)) => (enL (St.pick 2 s.h)).2.2.2.2.2.2.1
  refine wp_region_class (fun w' => St W w' (row g 0 [ptrV gp, .int .i64 site, .int .i64 t2] :: TabE gp 0 4096 l :: row T 0 e.cells :: R)) (by kernel_rfl) (by kernel_rfl) (St.drew s2) ?_
  repeat (go_big_quiet_step ((rename_i s; first
    | (go_at_call 50; refine check_c s.h ?_; rintro w4 s4; rw [HC.out]; exact Cls.end _ s4)
    | (go_at_call 167; refine duty_c HI.out.1 HI.out.2 HC.out s.h ?_; rintro w4 s4; rw [HD.out]; exact Cls.end _ s4))))
  clear hN_s3 gT_s3 g1_s3 g2_s3 gA_s3
  refine wpQuiet_nil ?_
  rintro ⟨w3, s3⟩
  dsimp only
  go_wp2_with fail
  exact HK.out _ _ (St.pick 2 s3).drop

set_option maxRecDepth 100000 in
set_option maxHeartbeats 4000000 in
theorem bury_new {e : EnV} (hi : 0 ≤ site ∧ site < 12) (hs : TSrt l) (hn : l.length ≤ 4096) (hc : checkE e = 0) (hd : dutyB e site = true) (ha : decide (t2 ≤ e.age) = false) (hb : thas l e.key = false) (hl : ¬ l.length = 4096) (st : St W w (row g 0 [ptrV gp, .int .i64 site, .int .i64 t2] :: TabE gp 0 4096 l :: R))
    (K : ∀ v w', St W w' (row g 0 [ptrV gp, .int .i64 site, .int .i64 t2] :: TabE gp 0 4096 (tput l e.key e) :: R) → post (.returned (.bool v)) w') :
    Calls Tryz.prog 118 #[.pointer (some ⟨g, 0, none⟩), .agg e.cells.toArray] w post := by
  have HK := hid K; clear K
  have HI := hid hi; have HS := hid hs; have HL := hid hn
  clear hi hs hn
  have HC := hid hc; have HD := hid hd
  have HB := hid hb
  obtain ⟨x, hx⟩ : ∃ x, tget l e.key = x := ⟨_, rfl⟩
  have HE := hid hx
  have H5 : Hid (l.length ≤ 4095) := hid (by have := HL.out; omega)
  have H6 : Hid (¬ (l.length : Int) = 4096) := hid (by omega)
  clear hc hd hb hx hl
  go_enter Tryz.func118, Tryz.ntmps118
  go_wp2_with (refine wpl_boxA (vs := e.cells) rfl (.tmp 1) rfl rfl st ?_; rintro T w1 s1)
  have s2 : St W w1 (row g 0 [ptrV gp, .int .i64 site, .int .i64 t2] :: TabE gp 0 4096 l :: row T 0 e.cells :: R) := s1.perm [1, 1]
  try simp only [Act.put, List.setIfInBounds_toArray, List.set_cons_succ, List.set_cons_zero]
  have hN_s3 : Nonempty (Cls (fun w' => St W w' (row g 0 [ptrV gp, .int .i64 site, .int .i64 t2] :: TabE gp 0 4096 l :: row T 0 e.cells :: R))) := Cls.inh s2
  have gT_s3 := fun s : Cls (fun w' => St W w' (row g 0 [ptrV gp, .int .i64 site, .int .i64 t2] :: TabE gp 0 4096 l :: row T 0 e.cells :: R)) => run_loadG agg_en (vs := e.cells) rfl (St.pick 2 s.h).rowAll
  have g1_s3 := fun s : Cls (fun w' => St W w' (row g 0 [ptrV gp, .int .i64 site, .int .i64 t2] :: TabE gp 0 4096 l :: row T 0 e.cells :: R)) => (graLd s.h).2.1
  have g2_s3 := fun s : Cls (fun w' => St W w' (row g 0 [ptrV gp, .int .i64 site, .int .i64 t2] :: TabE gp 0 4096 l :: row T 0 e.cells :: R)) => (graLd s.h).2.2
  have gA_s3 := fun s : Cls (fun w' => St W w' (row g 0 [ptrV gp, .int .i64 site, .int .i64 t2] :: TabE gp 0 4096 l :: row T 0 e.cells :: R)) => (enL (St.pick 2 s.h)).2.2.2.2.2.2.1
  refine wp_region_class (fun w' => St W w' (row g 0 [ptrV gp, .int .i64 site, .int .i64 t2] :: TabE gp 0 4096 l :: row T 0 e.cells :: R)) (by kernel_rfl) (by kernel_rfl) (St.drew s2) ?_
  repeat (go_big_quiet_step ((rename_i s; first
    | (go_at_call 50; refine check_c s.h ?_; rintro w4 s4; rw [HC.out]; exact Cls.end _ s4)
    | (go_at_call 167; refine duty_c HI.out.1 HI.out.2 HC.out s.h ?_; rintro w4 s4; rw [HD.out]; exact Cls.end _ s4))))
  clear hN_s3 gT_s3 g1_s3 g2_s3 gA_s3
  refine wpQuiet_nil ?_
  rintro ⟨w3, s3⟩
  dsimp only
  go_wp2_with fail
  go_cut [5, 6] (fun p v wx => ∃ U, p = .pointer (some ⟨U, 0, none⟩) ∧ v = .bool false ∧ St W wx (row g 0 [ptrV gp, .int .i64 site, .int .i64 t2] :: TabE gp 0 4096 l :: row U 0 x.cells :: row T 0 e.cells :: R))
  case first =>
    have u : St W w3.drew (row g 0 [ptrV gp, .int .i64 site, .int .i64 t2] :: TabE gp 0 4096 l :: row T 0 e.cells :: R) := s3.drew
    have gA := And.intro (graLd u).1 (enL (St.pick 2 u)).1
    have u2 := (s3.alloc EnV.zero.cells.toArray 67).drew
    have gB := And.intro (graLd (St.pick 1 u2)).1 (enL (St.pick 3 u2)).1
    have gz := zero_en
    have hone : oneG x.cells 9 := ⟨rfl, env_one _⟩
    go_region_held3 (fun w' => (loadG 110 (.pointer (some ⟨g, 0, none⟩))).run Tryz.prog w' = .ok (.pointer (some ⟨gp, 0, none⟩)) w' ∧ (loadG 9 (.pointer (some ⟨T, 0, none⟩))).run Tryz.prog w' = .ok (.string e.key) w')
      (first
        | with_reducible exact gE
        | with_reducible exact gD
        | with_reducible exact gC
        | with_reducible exact gB
        | with_reducible exact gA)
      (first
        | (go_at_call 44; first
            | (refine getE_c HS.out HL.out (St.pick 1 u) ?_; rintro w5 t5; rw [HB.out, HE.out]; have s5 : St W w5 (row g 0 [ptrV gp, .int .i64 site, .int .i64 t2] :: TabE gp 0 4096 l :: row T 0 e.cells :: R) := St.pick 1 t5; have gC := And.intro (graLd s5).1 (enL (St.pick 2 s5)).1; have u5 := s5.alloc EnV.zero.cells.toArray 67; have gD := And.intro (graLd (St.pick 1 u5)).1 (enL (St.pick 3 u5)).1; have rB := run_storeG agg_en (b := w5.heap.size) (o := 0) (u5.roomG rfl) hone; have u6 := u5.setAll (vs := x.cells) rfl; have gE := And.intro (graLd (St.pick 1 u6)).1 (enL (St.pick 3 u6)).1)
            | (refine getE_c HS.out HL.out (St.pick 2 u2) ?_; rintro w5 t5; rw [HB.out, HE.out]; have s5 : St W w5 (row w3.heap.size 0 EnV.zero.cells :: row g 0 [ptrV gp, .int .i64 site, .int .i64 t2] :: TabE gp 0 4096 l :: row T 0 e.cells :: R) := t5.perm [1, 1]; have gC := And.intro (graLd (St.pick 1 s5)).1 (enL (St.pick 3 s5)).1; have rB := run_storeG agg_en (b := w3.heap.size) (o := 0) (s5.roomG rfl) hone; have u6 := s5.setAll (vs := x.cells) rfl; have gE := And.intro (graLd (St.pick 1 u6)).1 (enL (St.pick 3 u6)).1)))
    all_goals
      go_wp2_with fail
      go_meet
      case rel => exact ⟨_, rfl, rfl, u6.perm [1, 1]⟩
  case rest =>
  obtain ⟨U, rfl, rfl, s6⟩ := hcut
  go_wp2_with fail
  try simp only [Act.put, List.setIfInBounds_toArray, List.set_cons_succ, List.set_cons_zero]
  have hN_s7 : Nonempty (Cls (fun w' => St W w' (row g 0 [ptrV gp, .int .i64 site, .int .i64 t2] :: TabE gp 0 4096 l :: row U 0 x.cells :: row T 0 e.cells :: R))) := Cls.inh s6
  have f0_s7 := fun s : Cls (fun w' => St W w' (row g 0 [ptrV gp, .int .i64 site, .int .i64 t2] :: TabE gp 0 4096 l :: row U 0 x.cells :: row T 0 e.cells :: R)) => (graLd s.h).1
  have g0_s7 := fun s : Cls (fun w' => St W w' (row g 0 [ptrV gp, .int .i64 site, .int .i64 t2] :: TabE gp 0 4096 l :: row U 0 x.cells :: row T 0 e.cells :: R)) => (enL (St.pick 3 s.h)).1
  have gA_s7 := fun s : Cls (fun w' => St W w' (row g 0 [ptrV gp, .int .i64 site, .int .i64 t2] :: TabE gp 0 4096 l :: row U 0 x.cells :: row T 0 e.cells :: R)) => run_loadG agg_en (vs := e.cells) rfl (St.pick 3 s.h).rowAll
  refine wp_region_class_tail (fun w' => St W w' (row g 0 [ptrV gp, .int .i64 site, .int .i64 t2] :: TabE gp 0 4096 l :: row U 0 x.cells :: row T 0 e.cells :: R)) 7 (by kernel_rfl) (by kernel_rfl) (St.drew s6) ?_
  simp only [List.take_succ_cons, List.take_zero, List.drop_succ_cons, List.drop_zero]
  repeat (go_big_quiet_step ((fail)))
  clear hN_s7 f0_s7 g0_s7 gA_s7
  refine wpQuiet_nil ?_
  rintro ⟨w7, s7⟩
  dsimp only
  go_wp2_with (go_at_call 140; refine putE_new HS.out H5.out HB.out H6.out (St.pick 1 s7) ?_; rintro w8 s8)
  exact HK.out _ _ (St.pick 1 ((s8.perm [2, 2]).dropN 2))

set_option maxRecDepth 100000 in
set_option maxHeartbeats 4000000 in
theorem bury_full {e : EnV} (hi : 0 ≤ site ∧ site < 12) (hs : TSrt l) (hn : l.length ≤ 4096) (hc : checkE e = 0) (hd : dutyB e site = true) (ha : decide (t2 ≤ e.age) = false) (hb : thas l e.key = false) (hl : l.length = 4096) (st : St W w (row g 0 [ptrV gp, .int .i64 site, .int .i64 t2] :: TabE gp 0 4096 l :: R))
    (K : ∀ v w', St W w' (row g 0 [ptrV gp, .int .i64 site, .int .i64 t2] :: TabE gp 0 4096 l :: R) → post (.returned (.bool v)) w') :
    Calls Tryz.prog 118 #[.pointer (some ⟨g, 0, none⟩), .agg e.cells.toArray] w post := by
  have HK := hid K; clear K
  have HI := hid hi; have HS := hid hs; have HL := hid hn
  clear hi hs hn
  have HC := hid hc; have HD := hid hd
  have HB := hid hb
  obtain ⟨x, hx⟩ : ∃ x, tget l e.key = x := ⟨_, rfl⟩
  have HE := hid hx
  have H6 : Hid ((l.length : Int) = 4096) := hid (by omega)
  clear hc hd hb hx hl
  go_enter Tryz.func118, Tryz.ntmps118
  go_wp2_with (refine wpl_boxA (vs := e.cells) rfl (.tmp 1) rfl rfl st ?_; rintro T w1 s1)
  have s2 : St W w1 (row g 0 [ptrV gp, .int .i64 site, .int .i64 t2] :: TabE gp 0 4096 l :: row T 0 e.cells :: R) := s1.perm [1, 1]
  try simp only [Act.put, List.setIfInBounds_toArray, List.set_cons_succ, List.set_cons_zero]
  have hN_s3 : Nonempty (Cls (fun w' => St W w' (row g 0 [ptrV gp, .int .i64 site, .int .i64 t2] :: TabE gp 0 4096 l :: row T 0 e.cells :: R))) := Cls.inh s2
  have gT_s3 := fun s : Cls (fun w' => St W w' (row g 0 [ptrV gp, .int .i64 site, .int .i64 t2] :: TabE gp 0 4096 l :: row T 0 e.cells :: R)) => run_loadG agg_en (vs := e.cells) rfl (St.pick 2 s.h).rowAll
  have g1_s3 := fun s : Cls (fun w' => St W w' (row g 0 [ptrV gp, .int .i64 site, .int .i64 t2] :: TabE gp 0 4096 l :: row T 0 e.cells :: R)) => (graLd s.h).2.1
  have g2_s3 := fun s : Cls (fun w' => St W w' (row g 0 [ptrV gp, .int .i64 site, .int .i64 t2] :: TabE gp 0 4096 l :: row T 0 e.cells :: R)) => (graLd s.h).2.2
  have gA_s3 := fun s : Cls (fun w' => St W w' (row g 0 [ptrV gp, .int .i64 site, .int .i64 t2] :: TabE gp 0 4096 l :: row T 0 e.cells :: R)) => (enL (St.pick 2 s.h)).2.2.2.2.2.2.1
  refine wp_region_class (fun w' => St W w' (row g 0 [ptrV gp, .int .i64 site, .int .i64 t2] :: TabE gp 0 4096 l :: row T 0 e.cells :: R)) (by kernel_rfl) (by kernel_rfl) (St.drew s2) ?_
  repeat (go_big_quiet_step ((rename_i s; first
    | (go_at_call 50; refine check_c s.h ?_; rintro w4 s4; rw [HC.out]; exact Cls.end _ s4)
    | (go_at_call 167; refine duty_c HI.out.1 HI.out.2 HC.out s.h ?_; rintro w4 s4; rw [HD.out]; exact Cls.end _ s4))))
  clear hN_s3 gT_s3 g1_s3 g2_s3 gA_s3
  refine wpQuiet_nil ?_
  rintro ⟨w3, s3⟩
  dsimp only
  go_wp2_with fail
  go_cut [5, 6] (fun p v wx => ∃ U, p = .pointer (some ⟨U, 0, none⟩) ∧ v = .bool false ∧ St W wx (row g 0 [ptrV gp, .int .i64 site, .int .i64 t2] :: TabE gp 0 4096 l :: row U 0 x.cells :: row T 0 e.cells :: R))
  case first =>
    have u : St W w3.drew (row g 0 [ptrV gp, .int .i64 site, .int .i64 t2] :: TabE gp 0 4096 l :: row T 0 e.cells :: R) := s3.drew
    have gA := And.intro (graLd u).1 (enL (St.pick 2 u)).1
    have u2 := (s3.alloc EnV.zero.cells.toArray 67).drew
    have gB := And.intro (graLd (St.pick 1 u2)).1 (enL (St.pick 3 u2)).1
    have gz := zero_en
    have hone : oneG x.cells 9 := ⟨rfl, env_one _⟩
    go_region_held3 (fun w' => (loadG 110 (.pointer (some ⟨g, 0, none⟩))).run Tryz.prog w' = .ok (.pointer (some ⟨gp, 0, none⟩)) w' ∧ (loadG 9 (.pointer (some ⟨T, 0, none⟩))).run Tryz.prog w' = .ok (.string e.key) w')
      (first
        | with_reducible exact gE
        | with_reducible exact gD
        | with_reducible exact gC
        | with_reducible exact gB
        | with_reducible exact gA)
      (first
        | (go_at_call 44; first
            | (refine getE_c HS.out HL.out (St.pick 1 u) ?_; rintro w5 t5; rw [HB.out, HE.out]; have s5 : St W w5 (row g 0 [ptrV gp, .int .i64 site, .int .i64 t2] :: TabE gp 0 4096 l :: row T 0 e.cells :: R) := St.pick 1 t5; have gC := And.intro (graLd s5).1 (enL (St.pick 2 s5)).1; have u5 := s5.alloc EnV.zero.cells.toArray 67; have gD := And.intro (graLd (St.pick 1 u5)).1 (enL (St.pick 3 u5)).1; have rB := run_storeG agg_en (b := w5.heap.size) (o := 0) (u5.roomG rfl) hone; have u6 := u5.setAll (vs := x.cells) rfl; have gE := And.intro (graLd (St.pick 1 u6)).1 (enL (St.pick 3 u6)).1)
            | (refine getE_c HS.out HL.out (St.pick 2 u2) ?_; rintro w5 t5; rw [HB.out, HE.out]; have s5 : St W w5 (row w3.heap.size 0 EnV.zero.cells :: row g 0 [ptrV gp, .int .i64 site, .int .i64 t2] :: TabE gp 0 4096 l :: row T 0 e.cells :: R) := t5.perm [1, 1]; have gC := And.intro (graLd (St.pick 1 s5)).1 (enL (St.pick 3 s5)).1; have rB := run_storeG agg_en (b := w3.heap.size) (o := 0) (s5.roomG rfl) hone; have u6 := s5.setAll (vs := x.cells) rfl; have gE := And.intro (graLd (St.pick 1 u6)).1 (enL (St.pick 3 u6)).1)))
    all_goals
      go_wp2_with fail
      go_meet
      case rel => exact ⟨_, rfl, rfl, u6.perm [1, 1]⟩
  case rest =>
  obtain ⟨U, rfl, rfl, s6⟩ := hcut
  go_wp2_with fail
  try simp only [Act.put, List.setIfInBounds_toArray, List.set_cons_succ, List.set_cons_zero]
  have hN_s7 : Nonempty (Cls (fun w' => St W w' (row g 0 [ptrV gp, .int .i64 site, .int .i64 t2] :: TabE gp 0 4096 l :: row U 0 x.cells :: row T 0 e.cells :: R))) := Cls.inh s6
  have f0_s7 := fun s : Cls (fun w' => St W w' (row g 0 [ptrV gp, .int .i64 site, .int .i64 t2] :: TabE gp 0 4096 l :: row U 0 x.cells :: row T 0 e.cells :: R)) => (graLd s.h).1
  have g0_s7 := fun s : Cls (fun w' => St W w' (row g 0 [ptrV gp, .int .i64 site, .int .i64 t2] :: TabE gp 0 4096 l :: row U 0 x.cells :: row T 0 e.cells :: R)) => (enL (St.pick 3 s.h)).1
  have gA_s7 := fun s : Cls (fun w' => St W w' (row g 0 [ptrV gp, .int .i64 site, .int .i64 t2] :: TabE gp 0 4096 l :: row U 0 x.cells :: row T 0 e.cells :: R)) => run_loadG agg_en (vs := e.cells) rfl (St.pick 3 s.h).rowAll
  refine wp_region_class_tail (fun w' => St W w' (row g 0 [ptrV gp, .int .i64 site, .int .i64 t2] :: TabE gp 0 4096 l :: row U 0 x.cells :: row T 0 e.cells :: R)) 7 (by kernel_rfl) (by kernel_rfl) (St.drew s6) ?_
  simp only [List.take_succ_cons, List.take_zero, List.drop_succ_cons, List.drop_zero]
  repeat (go_big_quiet_step ((fail)))
  clear hN_s7 f0_s7 g0_s7 gA_s7
  refine wpQuiet_nil ?_
  rintro ⟨w7, s7⟩
  dsimp only
  go_wp2_with (go_at_call 140; refine putE_full HS.out HL.out HB.out H6.out (St.pick 1 s7) ?_; rintro w8 s8)
  exact HK.out _ _ (St.pick 1 ((s8.perm [2, 2]).dropN 2))

set_option maxRecDepth 100000 in
set_option maxHeartbeats 4000000 in
theorem bury_gt {e : EnV} (hi : 0 ≤ site ∧ site < 12) (hs : TSrt l) (hn : l.length ≤ 4096) (hc : checkE e = 0) (hd : dutyB e site = true) (ha : decide (t2 ≤ e.age) = false) (hb : thas l e.key = true) (hy : 0 < cmpS (tget l e.key).sc (tget l e.key).ss e.sc e.ss) (st : St W w (row g 0 [ptrV gp, .int .i64 site, .int .i64 t2] :: TabE gp 0 4096 l :: R))
    (K : ∀ v w', St W w' (row g 0 [ptrV gp, .int .i64 site, .int .i64 t2] :: TabE gp 0 4096 l :: R) → post (.returned (.bool v)) w') :
    Calls Tryz.prog 118 #[.pointer (some ⟨g, 0, none⟩), .agg e.cells.toArray] w post := by
  have HK := hid K; clear K
  have HI := hid hi; have HS := hid hs; have HL := hid hn
  clear hi hs hn
  have HC := hid hc; have HD := hid hd
  have HB := hid hb
  obtain ⟨x, hx⟩ : ∃ x, tget l e.key = x := ⟨_, rfl⟩
  have HE := hid hx
  rw [hx] at hy
  obtain ⟨y, hyy⟩ : ∃ y, cmpS x.sc x.ss e.sc e.ss = y := ⟨_, rfl⟩
  have HY := hid hyy
  have h0 : decide (0 < y) = true := decide_eq_true (by omega)
  clear hc hd hb hx hy hyy
  go_enter Tryz.func118, Tryz.ntmps118
  go_wp2_with (refine wpl_boxA (vs := e.cells) rfl (.tmp 1) rfl rfl st ?_; rintro T w1 s1)
  have s2 : St W w1 (row g 0 [ptrV gp, .int .i64 site, .int .i64 t2] :: TabE gp 0 4096 l :: row T 0 e.cells :: R) := s1.perm [1, 1]
  try simp only [Act.put, List.setIfInBounds_toArray, List.set_cons_succ, List.set_cons_zero]
  have hN_s3 : Nonempty (Cls (fun w' => St W w' (row g 0 [ptrV gp, .int .i64 site, .int .i64 t2] :: TabE gp 0 4096 l :: row T 0 e.cells :: R))) := Cls.inh s2
  have gT_s3 := fun s : Cls (fun w' => St W w' (row g 0 [ptrV gp, .int .i64 site, .int .i64 t2] :: TabE gp 0 4096 l :: row T 0 e.cells :: R)) => run_loadG agg_en (vs := e.cells) rfl (St.pick 2 s.h).rowAll
  have g1_s3 := fun s : Cls (fun w' => St W w' (row g 0 [ptrV gp, .int .i64 site, .int .i64 t2] :: TabE gp 0 4096 l :: row T 0 e.cells :: R)) => (graLd s.h).2.1
  have g2_s3 := fun s : Cls (fun w' => St W w' (row g 0 [ptrV gp, .int .i64 site, .int .i64 t2] :: TabE gp 0 4096 l :: row T 0 e.cells :: R)) => (graLd s.h).2.2
  have gA_s3 := fun s : Cls (fun w' => St W w' (row g 0 [ptrV gp, .int .i64 site, .int .i64 t2] :: TabE gp 0 4096 l :: row T 0 e.cells :: R)) => (enL (St.pick 2 s.h)).2.2.2.2.2.2.1
  refine wp_region_class (fun w' => St W w' (row g 0 [ptrV gp, .int .i64 site, .int .i64 t2] :: TabE gp 0 4096 l :: row T 0 e.cells :: R)) (by kernel_rfl) (by kernel_rfl) (St.drew s2) ?_
  repeat (go_big_quiet_step ((rename_i s; first
    | (go_at_call 50; refine check_c s.h ?_; rintro w4 s4; rw [HC.out]; exact Cls.end _ s4)
    | (go_at_call 167; refine duty_c HI.out.1 HI.out.2 HC.out s.h ?_; rintro w4 s4; rw [HD.out]; exact Cls.end _ s4))))
  clear hN_s3 gT_s3 g1_s3 g2_s3 gA_s3
  refine wpQuiet_nil ?_
  rintro ⟨w3, s3⟩
  dsimp only
  go_wp2_with fail
  go_cut [5, 6] (fun p v wx => ∃ U, p = .pointer (some ⟨U, 0, none⟩) ∧ v = .bool true ∧ St W wx (row g 0 [ptrV gp, .int .i64 site, .int .i64 t2] :: TabE gp 0 4096 l :: row U 0 x.cells :: row T 0 e.cells :: R))
  case first =>
    have u : St W w3.drew (row g 0 [ptrV gp, .int .i64 site, .int .i64 t2] :: TabE gp 0 4096 l :: row T 0 e.cells :: R) := s3.drew
    have gA := And.intro (graLd u).1 (enL (St.pick 2 u)).1
    have u2 := (s3.alloc EnV.zero.cells.toArray 67).drew
    have gB := And.intro (graLd (St.pick 1 u2)).1 (enL (St.pick 3 u2)).1
    have gz := zero_en
    have hone : oneG x.cells 9 := ⟨rfl, env_one _⟩
    go_region_held3 (fun w' => (loadG 110 (.pointer (some ⟨g, 0, none⟩))).run Tryz.prog w' = .ok (.pointer (some ⟨gp, 0, none⟩)) w' ∧ (loadG 9 (.pointer (some ⟨T, 0, none⟩))).run Tryz.prog w' = .ok (.string e.key) w')
      (first
        | with_reducible exact gE
        | with_reducible exact gD
        | with_reducible exact gC
        | with_reducible exact gB
        | with_reducible exact gA)
      (first
        | (go_at_call 44; first
            | (refine getE_c HS.out HL.out (St.pick 1 u) ?_; rintro w5 t5; rw [HB.out, HE.out]; have s5 : St W w5 (row g 0 [ptrV gp, .int .i64 site, .int .i64 t2] :: TabE gp 0 4096 l :: row T 0 e.cells :: R) := St.pick 1 t5; have gC := And.intro (graLd s5).1 (enL (St.pick 2 s5)).1; have u5 := s5.alloc EnV.zero.cells.toArray 67; have gD := And.intro (graLd (St.pick 1 u5)).1 (enL (St.pick 3 u5)).1; have rB := run_storeG agg_en (b := w5.heap.size) (o := 0) (u5.roomG rfl) hone; have u6 := u5.setAll (vs := x.cells) rfl; have gE := And.intro (graLd (St.pick 1 u6)).1 (enL (St.pick 3 u6)).1)
            | (refine getE_c HS.out HL.out (St.pick 2 u2) ?_; rintro w5 t5; rw [HB.out, HE.out]; have s5 : St W w5 (row w3.heap.size 0 EnV.zero.cells :: row g 0 [ptrV gp, .int .i64 site, .int .i64 t2] :: TabE gp 0 4096 l :: row T 0 e.cells :: R) := t5.perm [1, 1]; have gC := And.intro (graLd (St.pick 1 s5)).1 (enL (St.pick 3 s5)).1; have rB := run_storeG agg_en (b := w3.heap.size) (o := 0) (s5.roomG rfl) hone; have u6 := s5.setAll (vs := x.cells) rfl; have gE := And.intro (graLd (St.pick 1 u6)).1 (enL (St.pick 3 u6)).1)))
    all_goals
      go_wp2_with fail
      go_meet
      case rel => exact ⟨_, rfl, rfl, u6.perm [1, 1]⟩
  case rest =>
  obtain ⟨U, rfl, rfl, s6⟩ := hcut
  have aX := (enL (St.pick 2 s6)).2.2.2.1
  have aE := (enL (St.pick 3 s6)).2.2.2.1
  go_wp2_with (go_at_call 100; refine cmpS_c s6 ?_; rintro wc sc; rw [HY.out])
  exact HK.out _ _ ((sc.perm [2, 2]).dropN 2)

set_option maxRecDepth 100000 in
set_option maxHeartbeats 4000000 in
theorem bury_eqS {e : EnV} (hi : 0 ≤ site ∧ site < 12) (hs : TSrt l) (hn : l.length ≤ 4096) (hc : checkE e = 0) (hd : dutyB e site = true) (ha : decide (t2 ≤ e.age) = false) (hg : ∀ p ∈ l, p.1 = p.2.key) (hb : thas l e.key = true) (hy : cmpS (tget l e.key).sc (tget l e.key).ss e.sc e.ss = 0) (hq : eqEn (tget l e.key) (bothE (tget l e.key) e) = true) (st : St W w (row g 0 [ptrV gp, .int .i64 site, .int .i64 t2] :: TabE gp 0 4096 l :: R))
    (K : ∀ v w', St W w' (row g 0 [ptrV gp, .int .i64 site, .int .i64 t2] :: TabE gp 0 4096 l :: R) → post (.returned (.bool v)) w') :
    Calls Tryz.prog 118 #[.pointer (some ⟨g, 0, none⟩), .agg e.cells.toArray] w post := by
  have HK := hid K; clear K
  have HI := hid hi; have HS := hid hs; have HL := hid hn
  clear hi hs hn
  have hk := tget_key HS.out hg hb
  have HC := hid hc; have HD := hid hd
  have HB := hid hb
  obtain ⟨x, hx⟩ : ∃ x, tget l e.key = x := ⟨_, rfl⟩
  have HE := hid hx
  rw [hx] at hy hq hk
  obtain ⟨f, hf⟩ : ∃ f, bothE x e = f := ⟨_, rfl⟩
  have hfk : f.key = e.key := by rw [← hf, ← hk]; rfl
  rw [hf] at hq
  have HF := hid hf
  have HY : Hid (cmpS x.sc x.ss e.sc e.ss = 0) := hid hy
  clear hf hfk
  have hqq : ∀ p q w, (eqEG p q (.agg x.cells.toArray) (.agg f.cells.toArray)).run Tryz.prog w = .ok (.bool true) w := fun p q w => by rw [run_eqEn, hq]
  clear hg hk hc hd hb hx hy hq
  go_enter Tryz.func118, Tryz.ntmps118
  go_wp2_with (refine wpl_boxA (vs := e.cells) rfl (.tmp 1) rfl rfl st ?_; rintro T w1 s1)
  have s2 : St W w1 (row g 0 [ptrV gp, .int .i64 site, .int .i64 t2] :: TabE gp 0 4096 l :: row T 0 e.cells :: R) := s1.perm [1, 1]
  try simp only [Act.put, List.setIfInBounds_toArray, List.set_cons_succ, List.set_cons_zero]
  have hN_s3 : Nonempty (Cls (fun w' => St W w' (row g 0 [ptrV gp, .int .i64 site, .int .i64 t2] :: TabE gp 0 4096 l :: row T 0 e.cells :: R))) := Cls.inh s2
  have gT_s3 := fun s : Cls (fun w' => St W w' (row g 0 [ptrV gp, .int .i64 site, .int .i64 t2] :: TabE gp 0 4096 l :: row T 0 e.cells :: R)) => run_loadG agg_en (vs := e.cells) rfl (St.pick 2 s.h).rowAll
  have g1_s3 := fun s : Cls (fun w' => St W w' (row g 0 [ptrV gp, .int .i64 site, .int .i64 t2] :: TabE gp 0 4096 l :: row T 0 e.cells :: R)) => (graLd s.h).2.1
  have g2_s3 := fun s : Cls (fun w' => St W w' (row g 0 [ptrV gp, .int .i64 site, .int .i64 t2] :: TabE gp 0 4096 l :: row T 0 e.cells :: R)) => (graLd s.h).2.2
  have gA_s3 := fun s : Cls (fun w' => St W w' (row g 0 [ptrV gp, .int .i64 site, .int .i64 t2] :: TabE gp 0 4096 l :: row T 0 e.cells :: R)) => (enL (St.pick 2 s.h)).2.2.2.2.2.2.1
  refine wp_region_class (fun w' => St W w' (row g 0 [ptrV gp, .int .i64 site, .int .i64 t2] :: TabE gp 0 4096 l :: row T 0 e.cells :: R)) (by kernel_rfl) (by kernel_rfl) (St.drew s2) ?_
  repeat (go_big_quiet_step ((rename_i s; first
    | (go_at_call 50; refine check_c s.h ?_; rintro w4 s4; rw [HC.out]; exact Cls.end _ s4)
    | (go_at_call 167; refine duty_c HI.out.1 HI.out.2 HC.out s.h ?_; rintro w4 s4; rw [HD.out]; exact Cls.end _ s4))))
  clear hN_s3 gT_s3 g1_s3 g2_s3 gA_s3
  refine wpQuiet_nil ?_
  rintro ⟨w3, s3⟩
  dsimp only
  go_wp2_with fail
  go_cut [5, 6] (fun p v wx => ∃ U, p = .pointer (some ⟨U, 0, none⟩) ∧ v = .bool true ∧ St W wx (row g 0 [ptrV gp, .int .i64 site, .int .i64 t2] :: TabE gp 0 4096 l :: row U 0 x.cells :: row T 0 e.cells :: R))
  case first =>
    have u : St W w3.drew (row g 0 [ptrV gp, .int .i64 site, .int .i64 t2] :: TabE gp 0 4096 l :: row T 0 e.cells :: R) := s3.drew
    have gA := And.intro (graLd u).1 (enL (St.pick 2 u)).1
    have u2 := (s3.alloc EnV.zero.cells.toArray 67).drew
    have gB := And.intro (graLd (St.pick 1 u2)).1 (enL (St.pick 3 u2)).1
    have gz := zero_en
    have hone : oneG x.cells 9 := ⟨rfl, env_one _⟩
    go_region_held3 (fun w' => (loadG 110 (.pointer (some ⟨g, 0, none⟩))).run Tryz.prog w' = .ok (.pointer (some ⟨gp, 0, none⟩)) w' ∧ (loadG 9 (.pointer (some ⟨T, 0, none⟩))).run Tryz.prog w' = .ok (.string e.key) w')
      (first
        | with_reducible exact gE
        | with_reducible exact gD
        | with_reducible exact gC
        | with_reducible exact gB
        | with_reducible exact gA)
      (first
        | (go_at_call 44; first
            | (refine getE_c HS.out HL.out (St.pick 1 u) ?_; rintro w5 t5; rw [HB.out, HE.out]; have s5 : St W w5 (row g 0 [ptrV gp, .int .i64 site, .int .i64 t2] :: TabE gp 0 4096 l :: row T 0 e.cells :: R) := St.pick 1 t5; have gC := And.intro (graLd s5).1 (enL (St.pick 2 s5)).1; have u5 := s5.alloc EnV.zero.cells.toArray 67; have gD := And.intro (graLd (St.pick 1 u5)).1 (enL (St.pick 3 u5)).1; have rB := run_storeG agg_en (b := w5.heap.size) (o := 0) (u5.roomG rfl) hone; have u6 := u5.setAll (vs := x.cells) rfl; have gE := And.intro (graLd (St.pick 1 u6)).1 (enL (St.pick 3 u6)).1)
            | (refine getE_c HS.out HL.out (St.pick 2 u2) ?_; rintro w5 t5; rw [HB.out, HE.out]; have s5 : St W w5 (row w3.heap.size 0 EnV.zero.cells :: row g 0 [ptrV gp, .int .i64 site, .int .i64 t2] :: TabE gp 0 4096 l :: row T 0 e.cells :: R) := t5.perm [1, 1]; have gC := And.intro (graLd (St.pick 1 s5)).1 (enL (St.pick 3 s5)).1; have rB := run_storeG agg_en (b := w3.heap.size) (o := 0) (s5.roomG rfl) hone; have u6 := s5.setAll (vs := x.cells) rfl; have gE := And.intro (graLd (St.pick 1 u6)).1 (enL (St.pick 3 u6)).1)))
    all_goals
      go_wp2_with fail
      go_meet
      case rel => exact ⟨_, rfl, rfl, u6.perm [1, 1]⟩
  case rest =>
  obtain ⟨U, rfl, rfl, s6⟩ := hcut
  have aX := (enL (St.pick 2 s6)).2.2.2.1
  have aE := (enL (St.pick 3 s6)).2.2.2.1
  go_wp2_with (first
    | (go_at_call 100; refine cmpS_c s6 ?_; rintro wc sc; rw [HY.out]; have lX := run_loadG agg_en (vs := x.cells) rfl (St.pick 2 sc).rowAll; have lE := run_loadG agg_en (vs := e.cells) rfl (St.pick 3 sc).rowAll)
    | (go_at_call 168; refine both_c sc ?_; rintro wd sd; rw [HF.out])
    | (refine wpl_storeA (vs := f.cells) rfl (.tmp 3) (.tmp 53) (by rfl) agg_en (by rfl) (by rfl) rfl (env_one _) (St.pick 3 sd) rfl ?_; rintro we se; have mE := run_loadG agg_en (vs := f.cells) rfl se.rowAll; have mX := run_loadG agg_en (vs := x.cells) rfl (St.pick 3 se).rowAll; have sf : St W we (row g 0 [ptrV gp, .int .i64 site, .int .i64 t2] :: TabE gp 0 4096 l :: row U 0 x.cells :: row T 0 f.cells :: R) := se.perm [1, 1, 1]))
  exact HK.out _ _ ((sf.perm [2, 2]).dropN 2)

set_option maxRecDepth 100000 in
set_option maxHeartbeats 4000000 in
theorem bury_eqN {e : EnV} (hi : 0 ≤ site ∧ site < 12) (hs : TSrt l) (hn : l.length ≤ 4096) (hc : checkE e = 0) (hd : dutyB e site = true) (ha : decide (t2 ≤ e.age) = false) (hg : ∀ p ∈ l, p.1 = p.2.key) (hb : thas l e.key = true) (hy : cmpS (tget l e.key).sc (tget l e.key).ss e.sc e.ss = 0) (hq : eqEn (tget l e.key) (bothE (tget l e.key) e) = false) (st : St W w (row g 0 [ptrV gp, .int .i64 site, .int .i64 t2] :: TabE gp 0 4096 l :: R))
    (K : ∀ v w', St W w' (row g 0 [ptrV gp, .int .i64 site, .int .i64 t2] :: TabE gp 0 4096 (tput l e.key (bothE (tget l e.key) e)) :: R) → post (.returned (.bool v)) w') :
    Calls Tryz.prog 118 #[.pointer (some ⟨g, 0, none⟩), .agg e.cells.toArray] w post := by
  have HK := hid K; clear K
  have HI := hid hi; have HS := hid hs; have HL := hid hn
  clear hi hs hn
  have hk := tget_key HS.out hg hb
  have HC := hid hc; have HD := hid hd
  have HB := hid hb
  obtain ⟨x, hx⟩ : ∃ x, tget l e.key = x := ⟨_, rfl⟩
  have HE := hid hx
  rw [hx] at hy hq hk
  obtain ⟨f, hf⟩ : ∃ f, bothE x e = f := ⟨_, rfl⟩
  have hfk : f.key = e.key := by rw [← hf, ← hk]; rfl
  rw [hf] at hq
  have HF := hid hf
  have HK' := HK.out
  rw [hx, hf, ← hfk] at HK'
  have HK := hid HK'
  clear HK'
  have HBf : Hid (thas l f.key = true) := hid (by rw [hfk]; exact hb)
  have HY : Hid (cmpS x.sc x.ss e.sc e.ss = 0) := hid hy
  clear hf hfk
  have hqq : ∀ p q w, (eqEG p q (.agg x.cells.toArray) (.agg f.cells.toArray)).run Tryz.prog w = .ok (.bool false) w := fun p q w => by rw [run_eqEn, hq]
  clear hg hk hc hd hb hx hy hq
  go_enter Tryz.func118, Tryz.ntmps118
  go_wp2_with (refine wpl_boxA (vs := e.cells) rfl (.tmp 1) rfl rfl st ?_; rintro T w1 s1)
  have s2 : St W w1 (row g 0 [ptrV gp, .int .i64 site, .int .i64 t2] :: TabE gp 0 4096 l :: row T 0 e.cells :: R) := s1.perm [1, 1]
  try simp only [Act.put, List.setIfInBounds_toArray, List.set_cons_succ, List.set_cons_zero]
  have hN_s3 : Nonempty (Cls (fun w' => St W w' (row g 0 [ptrV gp, .int .i64 site, .int .i64 t2] :: TabE gp 0 4096 l :: row T 0 e.cells :: R))) := Cls.inh s2
  have gT_s3 := fun s : Cls (fun w' => St W w' (row g 0 [ptrV gp, .int .i64 site, .int .i64 t2] :: TabE gp 0 4096 l :: row T 0 e.cells :: R)) => run_loadG agg_en (vs := e.cells) rfl (St.pick 2 s.h).rowAll
  have g1_s3 := fun s : Cls (fun w' => St W w' (row g 0 [ptrV gp, .int .i64 site, .int .i64 t2] :: TabE gp 0 4096 l :: row T 0 e.cells :: R)) => (graLd s.h).2.1
  have g2_s3 := fun s : Cls (fun w' => St W w' (row g 0 [ptrV gp, .int .i64 site, .int .i64 t2] :: TabE gp 0 4096 l :: row T 0 e.cells :: R)) => (graLd s.h).2.2
  have gA_s3 := fun s : Cls (fun w' => St W w' (row g 0 [ptrV gp, .int .i64 site, .int .i64 t2] :: TabE gp 0 4096 l :: row T 0 e.cells :: R)) => (enL (St.pick 2 s.h)).2.2.2.2.2.2.1
  refine wp_region_class (fun w' => St W w' (row g 0 [ptrV gp, .int .i64 site, .int .i64 t2] :: TabE gp 0 4096 l :: row T 0 e.cells :: R)) (by kernel_rfl) (by kernel_rfl) (St.drew s2) ?_
  repeat (go_big_quiet_step ((rename_i s; first
    | (go_at_call 50; refine check_c s.h ?_; rintro w4 s4; rw [HC.out]; exact Cls.end _ s4)
    | (go_at_call 167; refine duty_c HI.out.1 HI.out.2 HC.out s.h ?_; rintro w4 s4; rw [HD.out]; exact Cls.end _ s4))))
  clear hN_s3 gT_s3 g1_s3 g2_s3 gA_s3
  refine wpQuiet_nil ?_
  rintro ⟨w3, s3⟩
  dsimp only
  go_wp2_with fail
  go_cut [5, 6] (fun p v wx => ∃ U, p = .pointer (some ⟨U, 0, none⟩) ∧ v = .bool true ∧ St W wx (row g 0 [ptrV gp, .int .i64 site, .int .i64 t2] :: TabE gp 0 4096 l :: row U 0 x.cells :: row T 0 e.cells :: R))
  case first =>
    have u : St W w3.drew (row g 0 [ptrV gp, .int .i64 site, .int .i64 t2] :: TabE gp 0 4096 l :: row T 0 e.cells :: R) := s3.drew
    have gA := And.intro (graLd u).1 (enL (St.pick 2 u)).1
    have u2 := (s3.alloc EnV.zero.cells.toArray 67).drew
    have gB := And.intro (graLd (St.pick 1 u2)).1 (enL (St.pick 3 u2)).1
    have gz := zero_en
    have hone : oneG x.cells 9 := ⟨rfl, env_one _⟩
    go_region_held3 (fun w' => (loadG 110 (.pointer (some ⟨g, 0, none⟩))).run Tryz.prog w' = .ok (.pointer (some ⟨gp, 0, none⟩)) w' ∧ (loadG 9 (.pointer (some ⟨T, 0, none⟩))).run Tryz.prog w' = .ok (.string e.key) w')
      (first
        | with_reducible exact gE
        | with_reducible exact gD
        | with_reducible exact gC
        | with_reducible exact gB
        | with_reducible exact gA)
      (first
        | (go_at_call 44; first
            | (refine getE_c HS.out HL.out (St.pick 1 u) ?_; rintro w5 t5; rw [HB.out, HE.out]; have s5 : St W w5 (row g 0 [ptrV gp, .int .i64 site, .int .i64 t2] :: TabE gp 0 4096 l :: row T 0 e.cells :: R) := St.pick 1 t5; have gC := And.intro (graLd s5).1 (enL (St.pick 2 s5)).1; have u5 := s5.alloc EnV.zero.cells.toArray 67; have gD := And.intro (graLd (St.pick 1 u5)).1 (enL (St.pick 3 u5)).1; have rB := run_storeG agg_en (b := w5.heap.size) (o := 0) (u5.roomG rfl) hone; have u6 := u5.setAll (vs := x.cells) rfl; have gE := And.intro (graLd (St.pick 1 u6)).1 (enL (St.pick 3 u6)).1)
            | (refine getE_c HS.out HL.out (St.pick 2 u2) ?_; rintro w5 t5; rw [HB.out, HE.out]; have s5 : St W w5 (row w3.heap.size 0 EnV.zero.cells :: row g 0 [ptrV gp, .int .i64 site, .int .i64 t2] :: TabE gp 0 4096 l :: row T 0 e.cells :: R) := t5.perm [1, 1]; have gC := And.intro (graLd (St.pick 1 s5)).1 (enL (St.pick 3 s5)).1; have rB := run_storeG agg_en (b := w3.heap.size) (o := 0) (s5.roomG rfl) hone; have u6 := s5.setAll (vs := x.cells) rfl; have gE := And.intro (graLd (St.pick 1 u6)).1 (enL (St.pick 3 u6)).1)))
    all_goals
      go_wp2_with fail
      go_meet
      case rel => exact ⟨_, rfl, rfl, u6.perm [1, 1]⟩
  case rest =>
  obtain ⟨U, rfl, rfl, s6⟩ := hcut
  have aX := (enL (St.pick 2 s6)).2.2.2.1
  have aE := (enL (St.pick 3 s6)).2.2.2.1
  go_wp2_with (first
    | (go_at_call 100; refine cmpS_c s6 ?_; rintro wc sc; rw [HY.out]; have lX := run_loadG agg_en (vs := x.cells) rfl (St.pick 2 sc).rowAll; have lE := run_loadG agg_en (vs := e.cells) rfl (St.pick 3 sc).rowAll)
    | (go_at_call 168; refine both_c sc ?_; rintro wd sd; rw [HF.out])
    | (refine wpl_storeA (vs := f.cells) rfl (.tmp 3) (.tmp 53) (by rfl) agg_en (by rfl) (by rfl) rfl (env_one _) (St.pick 3 sd) rfl ?_; rintro we se; have mE := run_loadG agg_en (vs := f.cells) rfl se.rowAll; have mX := run_loadG agg_en (vs := x.cells) rfl (St.pick 3 se).rowAll; have sf : St W we (row g 0 [ptrV gp, .int .i64 site, .int .i64 t2] :: TabE gp 0 4096 l :: row U 0 x.cells :: row T 0 f.cells :: R) := se.perm [1, 1, 1]))
  try simp only [Act.put, List.setIfInBounds_toArray, List.set_cons_succ, List.set_cons_zero]
  have hN_s7 : Nonempty (Cls (fun w' => St W w' (row g 0 [ptrV gp, .int .i64 site, .int .i64 t2] :: TabE gp 0 4096 l :: row U 0 x.cells :: row T 0 f.cells :: R))) := Cls.inh sf
  have f0_s7 := fun s : Cls (fun w' => St W w' (row g 0 [ptrV gp, .int .i64 site, .int .i64 t2] :: TabE gp 0 4096 l :: row U 0 x.cells :: row T 0 f.cells :: R)) => (graLd s.h).1
  have g0_s7 := fun s : Cls (fun w' => St W w' (row g 0 [ptrV gp, .int .i64 site, .int .i64 t2] :: TabE gp 0 4096 l :: row U 0 x.cells :: row T 0 f.cells :: R)) => (enL (St.pick 3 s.h)).1
  have gA_s7 := fun s : Cls (fun w' => St W w' (row g 0 [ptrV gp, .int .i64 site, .int .i64 t2] :: TabE gp 0 4096 l :: row U 0 x.cells :: row T 0 f.cells :: R)) => run_loadG agg_en (vs := f.cells) rfl (St.pick 3 s.h).rowAll
  refine wp_region_class_tail (fun w' => St W w' (row g 0 [ptrV gp, .int .i64 site, .int .i64 t2] :: TabE gp 0 4096 l :: row U 0 x.cells :: row T 0 f.cells :: R)) 7 (by kernel_rfl) (by kernel_rfl) (St.drew sf) ?_
  simp only [List.take_succ_cons, List.take_zero, List.drop_succ_cons, List.drop_zero]
  repeat (go_big_quiet_step ((fail)))
  clear hN_s7 f0_s7 g0_s7 gA_s7
  refine wpQuiet_nil ?_
  rintro ⟨w7, s7⟩
  dsimp only
  go_wp2_with (go_at_call 140; refine putE_old HS.out HL.out HBf.out (St.pick 1 s7) ?_; rintro w8 s8)
  exact HK.out _ _ (St.pick 1 ((s8.perm [2, 2]).dropN 2))

set_option maxRecDepth 100000 in
set_option maxHeartbeats 4000000 in
theorem bury_ltS {e : EnV} (hi : 0 ≤ site ∧ site < 12) (hs : TSrt l) (hn : l.length ≤ 4096) (hc : checkE e = 0) (hd : dutyB e site = true) (ha : decide (t2 ≤ e.age) = false) (hg : ∀ p ∈ l, p.1 = p.2.key) (hb : thas l e.key = true) (hy : cmpS (tget l e.key).sc (tget l e.key).ss e.sc e.ss < 0) (hq : eqEn (tget l e.key) e = true) (st : St W w (row g 0 [ptrV gp, .int .i64 site, .int .i64 t2] :: TabE gp 0 4096 l :: R))
    (K : ∀ v w', St W w' (row g 0 [ptrV gp, .int .i64 site, .int .i64 t2] :: TabE gp 0 4096 l :: R) → post (.returned (.bool v)) w') :
    Calls Tryz.prog 118 #[.pointer (some ⟨g, 0, none⟩), .agg e.cells.toArray] w post := by
  have HK := hid K; clear K
  have HI := hid hi; have HS := hid hs; have HL := hid hn
  clear hi hs hn
  have hk := tget_key HS.out hg hb
  have HC := hid hc; have HD := hid hd
  have HB := hid hb
  obtain ⟨x, hx⟩ : ∃ x, tget l e.key = x := ⟨_, rfl⟩
  have HE := hid hx
  rw [hx] at hy hq hk
  obtain ⟨y, hyy⟩ : ∃ y, cmpS x.sc x.ss e.sc e.ss = y := ⟨_, rfl⟩
  have HY := hid hyy
  have h0 : decide (0 < y) = false := decide_eq_false (by omega)
  have h1 : (y == 0) = false := by simp; omega
  clear hyy
  have hqq : ∀ p q w, (eqEG p q (.agg x.cells.toArray) (.agg e.cells.toArray)).run Tryz.prog w = .ok (.bool true) w := fun p q w => by rw [run_eqEn, hq]
  clear hg hk hc hd hb hx hy hq
  go_enter Tryz.func118, Tryz.ntmps118
  go_wp2_with (refine wpl_boxA (vs := e.cells) rfl (.tmp 1) rfl rfl st ?_; rintro T w1 s1)
  have s2 : St W w1 (row g 0 [ptrV gp, .int .i64 site, .int .i64 t2] :: TabE gp 0 4096 l :: row T 0 e.cells :: R) := s1.perm [1, 1]
  try simp only [Act.put, List.setIfInBounds_toArray, List.set_cons_succ, List.set_cons_zero]
  have hN_s3 : Nonempty (Cls (fun w' => St W w' (row g 0 [ptrV gp, .int .i64 site, .int .i64 t2] :: TabE gp 0 4096 l :: row T 0 e.cells :: R))) := Cls.inh s2
  have gT_s3 := fun s : Cls (fun w' => St W w' (row g 0 [ptrV gp, .int .i64 site, .int .i64 t2] :: TabE gp 0 4096 l :: row T 0 e.cells :: R)) => run_loadG agg_en (vs := e.cells) rfl (St.pick 2 s.h).rowAll
  have g1_s3 := fun s : Cls (fun w' => St W w' (row g 0 [ptrV gp, .int .i64 site, .int .i64 t2] :: TabE gp 0 4096 l :: row T 0 e.cells :: R)) => (graLd s.h).2.1
  have g2_s3 := fun s : Cls (fun w' => St W w' (row g 0 [ptrV gp, .int .i64 site, .int .i64 t2] :: TabE gp 0 4096 l :: row T 0 e.cells :: R)) => (graLd s.h).2.2
  have gA_s3 := fun s : Cls (fun w' => St W w' (row g 0 [ptrV gp, .int .i64 site, .int .i64 t2] :: TabE gp 0 4096 l :: row T 0 e.cells :: R)) => (enL (St.pick 2 s.h)).2.2.2.2.2.2.1
  refine wp_region_class (fun w' => St W w' (row g 0 [ptrV gp, .int .i64 site, .int .i64 t2] :: TabE gp 0 4096 l :: row T 0 e.cells :: R)) (by kernel_rfl) (by kernel_rfl) (St.drew s2) ?_
  repeat (go_big_quiet_step ((rename_i s; first
    | (go_at_call 50; refine check_c s.h ?_; rintro w4 s4; rw [HC.out]; exact Cls.end _ s4)
    | (go_at_call 167; refine duty_c HI.out.1 HI.out.2 HC.out s.h ?_; rintro w4 s4; rw [HD.out]; exact Cls.end _ s4))))
  clear hN_s3 gT_s3 g1_s3 g2_s3 gA_s3
  refine wpQuiet_nil ?_
  rintro ⟨w3, s3⟩
  dsimp only
  go_wp2_with fail
  go_cut [5, 6] (fun p v wx => ∃ U, p = .pointer (some ⟨U, 0, none⟩) ∧ v = .bool true ∧ St W wx (row g 0 [ptrV gp, .int .i64 site, .int .i64 t2] :: TabE gp 0 4096 l :: row U 0 x.cells :: row T 0 e.cells :: R))
  case first =>
    have u : St W w3.drew (row g 0 [ptrV gp, .int .i64 site, .int .i64 t2] :: TabE gp 0 4096 l :: row T 0 e.cells :: R) := s3.drew
    have gA := And.intro (graLd u).1 (enL (St.pick 2 u)).1
    have u2 := (s3.alloc EnV.zero.cells.toArray 67).drew
    have gB := And.intro (graLd (St.pick 1 u2)).1 (enL (St.pick 3 u2)).1
    have gz := zero_en
    have hone : oneG x.cells 9 := ⟨rfl, env_one _⟩
    go_region_held3 (fun w' => (loadG 110 (.pointer (some ⟨g, 0, none⟩))).run Tryz.prog w' = .ok (.pointer (some ⟨gp, 0, none⟩)) w' ∧ (loadG 9 (.pointer (some ⟨T, 0, none⟩))).run Tryz.prog w' = .ok (.string e.key) w')
      (first
        | with_reducible exact gE
        | with_reducible exact gD
        | with_reducible exact gC
        | with_reducible exact gB
        | with_reducible exact gA)
      (first
        | (go_at_call 44; first
            | (refine getE_c HS.out HL.out (St.pick 1 u) ?_; rintro w5 t5; rw [HB.out, HE.out]; have s5 : St W w5 (row g 0 [ptrV gp, .int .i64 site, .int .i64 t2] :: TabE gp 0 4096 l :: row T 0 e.cells :: R) := St.pick 1 t5; have gC := And.intro (graLd s5).1 (enL (St.pick 2 s5)).1; have u5 := s5.alloc EnV.zero.cells.toArray 67; have gD := And.intro (graLd (St.pick 1 u5)).1 (enL (St.pick 3 u5)).1; have rB := run_storeG agg_en (b := w5.heap.size) (o := 0) (u5.roomG rfl) hone; have u6 := u5.setAll (vs := x.cells) rfl; have gE := And.intro (graLd (St.pick 1 u6)).1 (enL (St.pick 3 u6)).1)
            | (refine getE_c HS.out HL.out (St.pick 2 u2) ?_; rintro w5 t5; rw [HB.out, HE.out]; have s5 : St W w5 (row w3.heap.size 0 EnV.zero.cells :: row g 0 [ptrV gp, .int .i64 site, .int .i64 t2] :: TabE gp 0 4096 l :: row T 0 e.cells :: R) := t5.perm [1, 1]; have gC := And.intro (graLd (St.pick 1 s5)).1 (enL (St.pick 3 s5)).1; have rB := run_storeG agg_en (b := w3.heap.size) (o := 0) (s5.roomG rfl) hone; have u6 := s5.setAll (vs := x.cells) rfl; have gE := And.intro (graLd (St.pick 1 u6)).1 (enL (St.pick 3 u6)).1)))
    all_goals
      go_wp2_with fail
      go_meet
      case rel => exact ⟨_, rfl, rfl, u6.perm [1, 1]⟩
  case rest =>
  obtain ⟨U, rfl, rfl, s6⟩ := hcut
  have aX := (enL (St.pick 2 s6)).2.2.2.1
  have aE := (enL (St.pick 3 s6)).2.2.2.1
  go_wp2_with (go_at_call 100; refine cmpS_c s6 ?_; rintro wc sf; rw [HY.out]; have lX := run_loadG agg_en (vs := x.cells) rfl (St.pick 2 sf).rowAll; have lE := run_loadG agg_en (vs := e.cells) rfl (St.pick 3 sf).rowAll)
  exact HK.out _ _ ((sf.perm [2, 2]).dropN 2)

set_option maxRecDepth 100000 in
set_option maxHeartbeats 4000000 in
theorem bury_ltN {e : EnV} (hi : 0 ≤ site ∧ site < 12) (hs : TSrt l) (hn : l.length ≤ 4096) (hc : checkE e = 0) (hd : dutyB e site = true) (ha : decide (t2 ≤ e.age) = false) (hg : ∀ p ∈ l, p.1 = p.2.key) (hb : thas l e.key = true) (hy : cmpS (tget l e.key).sc (tget l e.key).ss e.sc e.ss < 0) (hq : eqEn (tget l e.key) e = false) (st : St W w (row g 0 [ptrV gp, .int .i64 site, .int .i64 t2] :: TabE gp 0 4096 l :: R))
    (K : ∀ v w', St W w' (row g 0 [ptrV gp, .int .i64 site, .int .i64 t2] :: TabE gp 0 4096 (tput l e.key e) :: R) → post (.returned (.bool v)) w') :
    Calls Tryz.prog 118 #[.pointer (some ⟨g, 0, none⟩), .agg e.cells.toArray] w post := by
  have HK := hid K; clear K
  have HI := hid hi; have HS := hid hs; have HL := hid hn
  clear hi hs hn
  have hk := tget_key HS.out hg hb
  have HC := hid hc; have HD := hid hd
  have HB := hid hb
  obtain ⟨x, hx⟩ : ∃ x, tget l e.key = x := ⟨_, rfl⟩
  have HE := hid hx
  rw [hx] at hy hq hk
  obtain ⟨y, hyy⟩ : ∃ y, cmpS x.sc x.ss e.sc e.ss = y := ⟨_, rfl⟩
  have HY := hid hyy
  have h0 : decide (0 < y) = false := decide_eq_false (by omega)
  have h1 : (y == 0) = false := by simp; omega
  clear hyy
  have hqq : ∀ p q w, (eqEG p q (.agg x.cells.toArray) (.agg e.cells.toArray)).run Tryz.prog w = .ok (.bool false) w := fun p q w => by rw [run_eqEn, hq]
  clear hg hk hc hd hb hx hy hq
  go_enter Tryz.func118, Tryz.ntmps118
  go_wp2_with (refine wpl_boxA (vs := e.cells) rfl (.tmp 1) rfl rfl st ?_; rintro T w1 s1)
  have s2 : St W w1 (row g 0 [ptrV gp, .int .i64 site, .int .i64 t2] :: TabE gp 0 4096 l :: row T 0 e.cells :: R) := s1.perm [1, 1]
  try simp only [Act.put, List.setIfInBounds_toArray, List.set_cons_succ, List.set_cons_zero]
  have hN_s3 : Nonempty (Cls (fun w' => St W w' (row g 0 [ptrV gp, .int .i64 site, .int .i64 t2] :: TabE gp 0 4096 l :: row T 0 e.cells :: R))) := Cls.inh s2
  have gT_s3 := fun s : Cls (fun w' => St W w' (row g 0 [ptrV gp, .int .i64 site, .int .i64 t2] :: TabE gp 0 4096 l :: row T 0 e.cells :: R)) => run_loadG agg_en (vs := e.cells) rfl (St.pick 2 s.h).rowAll
  have g1_s3 := fun s : Cls (fun w' => St W w' (row g 0 [ptrV gp, .int .i64 site, .int .i64 t2] :: TabE gp 0 4096 l :: row T 0 e.cells :: R)) => (graLd s.h).2.1
  have g2_s3 := fun s : Cls (fun w' => St W w' (row g 0 [ptrV gp, .int .i64 site, .int .i64 t2] :: TabE gp 0 4096 l :: row T 0 e.cells :: R)) => (graLd s.h).2.2
  have gA_s3 := fun s : Cls (fun w' => St W w' (row g 0 [ptrV gp, .int .i64 site, .int .i64 t2] :: TabE gp 0 4096 l :: row T 0 e.cells :: R)) => (enL (St.pick 2 s.h)).2.2.2.2.2.2.1
  refine wp_region_class (fun w' => St W w' (row g 0 [ptrV gp, .int .i64 site, .int .i64 t2] :: TabE gp 0 4096 l :: row T 0 e.cells :: R)) (by kernel_rfl) (by kernel_rfl) (St.drew s2) ?_
  repeat (go_big_quiet_step ((rename_i s; first
    | (go_at_call 50; refine check_c s.h ?_; rintro w4 s4; rw [HC.out]; exact Cls.end _ s4)
    | (go_at_call 167; refine duty_c HI.out.1 HI.out.2 HC.out s.h ?_; rintro w4 s4; rw [HD.out]; exact Cls.end _ s4))))
  clear hN_s3 gT_s3 g1_s3 g2_s3 gA_s3
  refine wpQuiet_nil ?_
  rintro ⟨w3, s3⟩
  dsimp only
  go_wp2_with fail
  go_cut [5, 6] (fun p v wx => ∃ U, p = .pointer (some ⟨U, 0, none⟩) ∧ v = .bool true ∧ St W wx (row g 0 [ptrV gp, .int .i64 site, .int .i64 t2] :: TabE gp 0 4096 l :: row U 0 x.cells :: row T 0 e.cells :: R))
  case first =>
    have u : St W w3.drew (row g 0 [ptrV gp, .int .i64 site, .int .i64 t2] :: TabE gp 0 4096 l :: row T 0 e.cells :: R) := s3.drew
    have gA := And.intro (graLd u).1 (enL (St.pick 2 u)).1
    have u2 := (s3.alloc EnV.zero.cells.toArray 67).drew
    have gB := And.intro (graLd (St.pick 1 u2)).1 (enL (St.pick 3 u2)).1
    have gz := zero_en
    have hone : oneG x.cells 9 := ⟨rfl, env_one _⟩
    go_region_held3 (fun w' => (loadG 110 (.pointer (some ⟨g, 0, none⟩))).run Tryz.prog w' = .ok (.pointer (some ⟨gp, 0, none⟩)) w' ∧ (loadG 9 (.pointer (some ⟨T, 0, none⟩))).run Tryz.prog w' = .ok (.string e.key) w')
      (first
        | with_reducible exact gE
        | with_reducible exact gD
        | with_reducible exact gC
        | with_reducible exact gB
        | with_reducible exact gA)
      (first
        | (go_at_call 44; first
            | (refine getE_c HS.out HL.out (St.pick 1 u) ?_; rintro w5 t5; rw [HB.out, HE.out]; have s5 : St W w5 (row g 0 [ptrV gp, .int .i64 site, .int .i64 t2] :: TabE gp 0 4096 l :: row T 0 e.cells :: R) := St.pick 1 t5; have gC := And.intro (graLd s5).1 (enL (St.pick 2 s5)).1; have u5 := s5.alloc EnV.zero.cells.toArray 67; have gD := And.intro (graLd (St.pick 1 u5)).1 (enL (St.pick 3 u5)).1; have rB := run_storeG agg_en (b := w5.heap.size) (o := 0) (u5.roomG rfl) hone; have u6 := u5.setAll (vs := x.cells) rfl; have gE := And.intro (graLd (St.pick 1 u6)).1 (enL (St.pick 3 u6)).1)
            | (refine getE_c HS.out HL.out (St.pick 2 u2) ?_; rintro w5 t5; rw [HB.out, HE.out]; have s5 : St W w5 (row w3.heap.size 0 EnV.zero.cells :: row g 0 [ptrV gp, .int .i64 site, .int .i64 t2] :: TabE gp 0 4096 l :: row T 0 e.cells :: R) := t5.perm [1, 1]; have gC := And.intro (graLd (St.pick 1 s5)).1 (enL (St.pick 3 s5)).1; have rB := run_storeG agg_en (b := w3.heap.size) (o := 0) (s5.roomG rfl) hone; have u6 := s5.setAll (vs := x.cells) rfl; have gE := And.intro (graLd (St.pick 1 u6)).1 (enL (St.pick 3 u6)).1)))
    all_goals
      go_wp2_with fail
      go_meet
      case rel => exact ⟨_, rfl, rfl, u6.perm [1, 1]⟩
  case rest =>
  obtain ⟨U, rfl, rfl, s6⟩ := hcut
  have aX := (enL (St.pick 2 s6)).2.2.2.1
  have aE := (enL (St.pick 3 s6)).2.2.2.1
  go_wp2_with (go_at_call 100; refine cmpS_c s6 ?_; rintro wc sf; rw [HY.out]; have lX := run_loadG agg_en (vs := x.cells) rfl (St.pick 2 sf).rowAll; have lE := run_loadG agg_en (vs := e.cells) rfl (St.pick 3 sf).rowAll)
  try simp only [Act.put, List.setIfInBounds_toArray, List.set_cons_succ, List.set_cons_zero]
  have hN_s7 : Nonempty (Cls (fun w' => St W w' (row g 0 [ptrV gp, .int .i64 site, .int .i64 t2] :: TabE gp 0 4096 l :: row U 0 x.cells :: row T 0 e.cells :: R))) := Cls.inh sf
  have f0_s7 := fun s : Cls (fun w' => St W w' (row g 0 [ptrV gp, .int .i64 site, .int .i64 t2] :: TabE gp 0 4096 l :: row U 0 x.cells :: row T 0 e.cells :: R)) => (graLd s.h).1
  have g0_s7 := fun s : Cls (fun w' => St W w' (row g 0 [ptrV gp, .int .i64 site, .int .i64 t2] :: TabE gp 0 4096 l :: row U 0 x.cells :: row T 0 e.cells :: R)) => (enL (St.pick 3 s.h)).1
  have gA_s7 := fun s : Cls (fun w' => St W w' (row g 0 [ptrV gp, .int .i64 site, .int .i64 t2] :: TabE gp 0 4096 l :: row U 0 x.cells :: row T 0 e.cells :: R)) => run_loadG agg_en (vs := e.cells) rfl (St.pick 3 s.h).rowAll
  refine wp_region_class_tail (fun w' => St W w' (row g 0 [ptrV gp, .int .i64 site, .int .i64 t2] :: TabE gp 0 4096 l :: row U 0 x.cells :: row T 0 e.cells :: R)) 7 (by kernel_rfl) (by kernel_rfl) (St.drew sf) ?_
  simp only [List.take_succ_cons, List.take_zero, List.drop_succ_cons, List.drop_zero]
  repeat (go_big_quiet_step ((fail)))
  clear hN_s7 f0_s7 g0_s7 gA_s7
  refine wpQuiet_nil ?_
  rintro ⟨w7, s7⟩
  dsimp only
  go_wp2_with (go_at_call 140; refine putE_old HS.out HL.out HB.out (St.pick 1 s7) ?_; rintro w8 s8)
  exact HK.out _ _ (St.pick 1 ((s8.perm [2, 2]).dropN 2))

open Classical in
theorem eqEn_eq {a b : EnV} : eqEn a b = true ↔ a = b := by unfold eqEn; exact decide_eq_true_iff

/-- A certificate is kept, if the site has to. -/
theorem bury_c {e : EnV} (hi : 0 ≤ site ∧ site < 12) (hs : TSrt l) (hn : l.length ≤ 4096) (hg : ∀ p ∈ l, p.1 = p.2.key) (st : St W w (row g 0 [ptrV gp, .int .i64 site, .int .i64 t2] :: TabE gp 0 4096 l :: R))
    (K : ∀ v w', St W w' (row g 0 [ptrV gp, .int .i64 site, .int .i64 t2] :: TabE gp 0 4096 (buryT site t2 l e) :: R) → post (.returned (.bool v)) w') :
    Calls Tryz.prog 118 #[.pointer (some ⟨g, 0, none⟩), .agg e.cells.toArray] w post := by
  unfold buryT at K
  by_cases hc : checkE e = 0
  · have hc2 : decide (checkE e ≠ 0) = false := decide_eq_false (by rw [hc]; exact fun h => h rfl)
    rw [hc2] at K
    cases hd : dutyB e site with
    | false =>
      rw [hd] at K
      exact bury_duty hi hs hn hc hd st K
    | true =>
      rw [hd] at K
      cases ha : decide (t2 ≤ e.age) with
      | true =>
        rw [ha] at K
        exact bury_age hi hs hn hc hd ha st K
      | false =>
        rw [ha] at K
        rw [if_neg (by decide)] at K
        cases hb : thas l e.key with
        | false =>
          rw [hb, if_neg (by decide)] at K
          by_cases hl : l.length = 4096
          · rw [if_neg (by omega)] at K
            exact bury_full hi hs hn hc hd ha hb hl st K
          · rw [if_pos (by omega)] at K
            exact bury_new hi hs hn hc hd ha hb hl st K
        | true =>
          rw [hb, if_pos rfl] at K
          by_cases hy : 0 < cmpS (tget l e.key).sc (tget l e.key).ss e.sc e.ss
          · rw [if_pos hy] at K
            exact bury_gt hi hs hn hc hd ha hb hy st K
          · rw [if_neg hy] at K
            by_cases hz : cmpS (tget l e.key).sc (tget l e.key).ss e.sc e.ss = 0
            · rw [if_pos hz] at K
              cases hq : eqEn (tget l e.key) (bothE (tget l e.key) e) with
              | true =>
                have he := eqEn_eq.1 hq
                have := tput_same hs hb he
                rw [this] at K
                exact bury_eqS hi hs hn hc hd ha hg hb hz hq st K
              | false => exact bury_eqN hi hs hn hc hd ha hg hb hz hq st K
            · rw [if_neg hz] at K
              cases hq : eqEn (tget l e.key) e with
              | true =>
                have he := eqEn_eq.1 hq
                have := tput_same hs hb he
                rw [this] at K
                exact bury_ltS hi hs hn hc hd ha hg hb (by omega) hq st K
              | false => exact bury_ltN hi hs hn hc hd ha hg hb (by omega) hq st K
  · have hc2 : decide (checkE e ≠ 0) = true := decide_eq_true hc
    rw [hc2] at K
    exact bury_chk hi hs hn hc st K
end
end Go.Proofs.YtojfjbbggpfijaaGreatDoor
