/- The replica: write, with the closure of Put. Printed by mkRepI.py. -/
import Derived.Test.YtojfjbbggpfijaaGreatDoorRepsG
import Derived.Deep.DeepCutAuto
namespace Go.Proofs.YtojfjbbggpfijaaGreatDoor
open Go.RowKit Go.Qd RepV

section
attribute [local go_sem ↓] execOp_ldAny
variable {W w : World} {R : List HP} {post : Ending → World → Prop} {A : RAd} {r : RepV}

theorem repQuota (s : St W w (RepA A r :: R)) : (loadG 3 (.pointer (some ⟨A.p, 1, none⟩))).run Tryz.prog w = .ok (.int .i64 r.quota) w := run_ldP (by kernel_rfl) (repRow (RepA.open.1 s) 1 _ rfl)

set_option maxRecDepth 100000 in
set_option maxHeartbeats 8000000 in
theorem write_full {B D : Nat} {k v : ByteArray} (h : RepOK r) (hfb : r.fullB k = true) (st : St W w (RepA A r :: row B 0 [.string k] :: row D 0 [.string v] :: R))
    (K : ∀ w', St W w' (RepA A r :: row B 0 [.string k] :: row D 0 [.string v] :: R) → post (.returned (.tuple #[.agg EnV.zero.cells.toArray, .int .i64 7])) w') :
    Calls Tryz.prog 48 #[.pointer (some ⟨A.p, 0, none⟩), .string k, .func (.func 49) #[] #[.pointer (some ⟨B, 0, none⟩), .pointer (some ⟨D, 0, none⟩)]] w post := by
  have HK := hid K; clear K
  have HH := hid h
  obtain ⟨o, ho⟩ : ∃ o, bhas r.own k = o := ⟨_, rfl⟩
  obtain ⟨q0, hq0⟩ : ∃ q0, decide (r.quota ≤ (r.own.length : Int)) = q0 := ⟨_, rfl⟩
  obtain ⟨rb, hrb⟩ : ∃ rb, r.roomB k = rb := ⟨_, rfl⟩
  have hfb2 : ((!o && q0) || !rb) = true := by rw [← hfb, ← ho, ← hq0, ← hrb]; rfl
  have HFB := hid hfb2
  have HO := hid ho; have HR := hid hrb
  clear ho hrb hfb hfb2
  clear h
  go_enter Tryz.func48, Tryz.ntmps48
  go_upto_region 2 with (first
    | (refine wpl_allocA rfl rfl zero_en st ?_; rintro V w1 s1; have s2 : St W w1 (RepA A r :: row V 0 EnV.zero.cells :: row B 0 [.string k] :: row D 0 [.string v] :: R) := St.pick 1 s1; have l8 := (repLd s2).2.2.1)
    | (go_at_call 94; refine getB_c HH.out.own HH.out.ownL HH.out.ownT (St.pick 3 (RepA.open.1 s2)) ?_; rintro w3 s3; rw [HO.out]; have s4 : St W w3 (RepA A r :: row V 0 EnV.zero.cells :: row B 0 [.string k] :: row D 0 [.string v] :: R) := RepA.open.2 (s3.perm [1, 1, 1])))
  go_cut [42] (fun x wx => x = .bool true ∧ St W wx (RepA A r :: row V 0 EnV.zero.cells :: row B 0 [.string k] :: row D 0 [.string v] :: R))
  case first =>
    cases o with
    | true =>
      cases rb with
      | true =>
        try simp only [Act.put, List.setIfInBounds_toArray, List.set_cons_succ, List.set_cons_zero]
        have hN : Nonempty (Cls (fun w' => St W w' (RepA A r :: row V 0 EnV.zero.cells :: row B 0 [.string k] :: row D 0 [.string v] :: R))) := Cls.inh s4
        have f8 := fun s : Cls (fun w' => St W w' (RepA A r :: row V 0 EnV.zero.cells :: row B 0 [.string k] :: row D 0 [.string v] :: R)) => (repLd s.h).2.2.1
        have fq := fun s : Cls (fun w' => St W w' (RepA A r :: row V 0 EnV.zero.cells :: row B 0 [.string k] :: row D 0 [.string v] :: R)) => repQuota s.h
        refine wp_region_class (fun w' => St W w' (RepA A r :: row V 0 EnV.zero.cells :: row B 0 [.string k] :: row D 0 [.string v] :: R)) (by kernel_rfl) (by kernel_rfl) s4.drew ?_
        repeat (go_big_quiet_step ((rename_i s; first
          | (go_at_call 95; refine lenB_c HH.out.ownL (St.pick 3 (RepA.open.1 s.h)) ?_; exact Cls.end _ s.h)
          | (go_at_call 96; refine room_c HH.out s.h ?_; rintro w9 s9; rw [HR.out]; exact Cls.end _ s9))))
        clear hN f8 fq
        refine wpQuiet_nil ?_
        rintro ⟨w5, s5⟩
        dsimp only
        go_wp2_with fail
        go_meet
        case rel => exact ⟨by rw [← HFB.out] <;> rfl, s5⟩
      | false =>
        try simp only [Act.put, List.setIfInBounds_toArray, List.set_cons_succ, List.set_cons_zero]
        have hN : Nonempty (Cls (fun w' => St W w' (RepA A r :: row V 0 EnV.zero.cells :: row B 0 [.string k] :: row D 0 [.string v] :: R))) := Cls.inh s4
        have f8 := fun s : Cls (fun w' => St W w' (RepA A r :: row V 0 EnV.zero.cells :: row B 0 [.string k] :: row D 0 [.string v] :: R)) => (repLd s.h).2.2.1
        have fq := fun s : Cls (fun w' => St W w' (RepA A r :: row V 0 EnV.zero.cells :: row B 0 [.string k] :: row D 0 [.string v] :: R)) => repQuota s.h
        refine wp_region_class (fun w' => St W w' (RepA A r :: row V 0 EnV.zero.cells :: row B 0 [.string k] :: row D 0 [.string v] :: R)) (by kernel_rfl) (by kernel_rfl) s4.drew ?_
        repeat (go_big_quiet_step ((rename_i s; first
          | (go_at_call 95; refine lenB_c HH.out.ownL (St.pick 3 (RepA.open.1 s.h)) ?_; exact Cls.end _ s.h)
          | (go_at_call 96; refine room_c HH.out s.h ?_; rintro w9 s9; rw [HR.out]; exact Cls.end _ s9))))
        clear hN f8 fq
        refine wpQuiet_nil ?_
        rintro ⟨w5, s5⟩
        dsimp only
        go_wp2_with fail
        go_meet
        case rel => exact ⟨by rw [← HFB.out] <;> rfl, s5⟩
    | false =>
      cases q0 with
      | true =>
        try simp only [Act.put, List.setIfInBounds_toArray, List.set_cons_succ, List.set_cons_zero]
        have hN : Nonempty (Cls (fun w' => St W w' (RepA A r :: row V 0 EnV.zero.cells :: row B 0 [.string k] :: row D 0 [.string v] :: R))) := Cls.inh s4
        have f8 := fun s : Cls (fun w' => St W w' (RepA A r :: row V 0 EnV.zero.cells :: row B 0 [.string k] :: row D 0 [.string v] :: R)) => (repLd s.h).2.2.1
        have fq := fun s : Cls (fun w' => St W w' (RepA A r :: row V 0 EnV.zero.cells :: row B 0 [.string k] :: row D 0 [.string v] :: R)) => repQuota s.h
        refine wp_region_class (fun w' => St W w' (RepA A r :: row V 0 EnV.zero.cells :: row B 0 [.string k] :: row D 0 [.string v] :: R)) (by kernel_rfl) (by kernel_rfl) s4.drew ?_
        repeat (go_big_quiet_step ((rename_i s; first
          | (go_at_call 95; refine lenB_c HH.out.ownL (St.pick 3 (RepA.open.1 s.h)) ?_; exact Cls.end _ s.h)
          | (go_at_call 96; refine room_c HH.out s.h ?_; rintro w9 s9; rw [HR.out]; exact Cls.end _ s9))))
        clear hN f8 fq
        refine wpQuiet_nil ?_
        rintro ⟨w5, s5⟩
        dsimp only
        go_wp2_with fail
        go_meet
        case rel => exact ⟨by rw [← HFB.out] <;> rfl, s5⟩
      | false =>
        cases rb with
        | true =>
          try simp only [Act.put, List.setIfInBounds_toArray, List.set_cons_succ, List.set_cons_zero]
          have hN : Nonempty (Cls (fun w' => St W w' (RepA A r :: row V 0 EnV.zero.cells :: row B 0 [.string k] :: row D 0 [.string v] :: R))) := Cls.inh s4
          have f8 := fun s : Cls (fun w' => St W w' (RepA A r :: row V 0 EnV.zero.cells :: row B 0 [.string k] :: row D 0 [.string v] :: R)) => (repLd s.h).2.2.1
          have fq := fun s : Cls (fun w' => St W w' (RepA A r :: row V 0 EnV.zero.cells :: row B 0 [.string k] :: row D 0 [.string v] :: R)) => repQuota s.h
          refine wp_region_class (fun w' => St W w' (RepA A r :: row V 0 EnV.zero.cells :: row B 0 [.string k] :: row D 0 [.string v] :: R)) (by kernel_rfl) (by kernel_rfl) s4.drew ?_
          repeat (go_big_quiet_step ((rename_i s; first
            | (go_at_call 95; refine lenB_c HH.out.ownL (St.pick 3 (RepA.open.1 s.h)) ?_; exact Cls.end _ s.h)
            | (go_at_call 96; refine room_c HH.out s.h ?_; rintro w9 s9; rw [HR.out]; exact Cls.end _ s9))))
          clear hN f8 fq
          refine wpQuiet_nil ?_
          rintro ⟨w5, s5⟩
          dsimp only
          go_wp2_with fail
          go_meet
          case rel => exact ⟨by rw [← HFB.out] <;> rfl, s5⟩
        | false =>
          try simp only [Act.put, List.setIfInBounds_toArray, List.set_cons_succ, List.set_cons_zero]
          have hN : Nonempty (Cls (fun w' => St W w' (RepA A r :: row V 0 EnV.zero.cells :: row B 0 [.string k] :: row D 0 [.string v] :: R))) := Cls.inh s4
          have f8 := fun s : Cls (fun w' => St W w' (RepA A r :: row V 0 EnV.zero.cells :: row B 0 [.string k] :: row D 0 [.string v] :: R)) => (repLd s.h).2.2.1
          have fq := fun s : Cls (fun w' => St W w' (RepA A r :: row V 0 EnV.zero.cells :: row B 0 [.string k] :: row D 0 [.string v] :: R)) => repQuota s.h
          refine wp_region_class (fun w' => St W w' (RepA A r :: row V 0 EnV.zero.cells :: row B 0 [.string k] :: row D 0 [.string v] :: R)) (by kernel_rfl) (by kernel_rfl) s4.drew ?_
          repeat (go_big_quiet_step ((rename_i s; first
            | (go_at_call 95; refine lenB_c HH.out.ownL (St.pick 3 (RepA.open.1 s.h)) ?_; exact Cls.end _ s.h)
            | (go_at_call 96; refine room_c HH.out s.h ?_; rintro w9 s9; rw [HR.out]; exact Cls.end _ s9))))
          clear hN f8 fq
          refine wpQuiet_nil ?_
          rintro ⟨w5, s5⟩
          dsimp only
          go_wp2_with fail
          go_meet
          case rel => exact ⟨by rw [← HFB.out] <;> rfl, s5⟩
  case rest =>
  obtain ⟨rfl, s6⟩ := hcut
  clear HFB HO HR
  go_wp2_with (first
    | (refine wpl_build rfl rfl (v := .agg EnV.zero.cells.toArray) (by kernel_rfl) ?_)
    | (refine wpl_storeA (vs := EnV.zero.cells) rfl (.tmp 6) (.tmp 43) (by rfl) agg_en (by rfl) (by rfl) rfl (env_one _) (St.pick 1 s6) rfl ?_; rintro wz sz))
  have hL := run_loadA agg_en (vs := EnV.zero.cells) rfl sz.rowAll
  exact bodyPost_ret (v := .tuple #[.agg (EnV.zero.cells).toArray, .int .i64 7]) (by simp [results, Tryz.results48, asAddr, hL]) rfl (HK.out _ (sz.drop))

set_option maxRecDepth 100000 in
set_option maxHeartbeats 8000000 in
theorem write_cnt {B D : Nat} {k v : ByteArray} (h : RepOK r) (hfb : r.fullB k = false) (hc : 4294967295 ≤ r.cnt) (st : St W w (RepA A r :: row B 0 [.string k] :: row D 0 [.string v] :: R))
    (K : ∀ w', St W w' (RepA A r :: row B 0 [.string k] :: row D 0 [.string v] :: R) → post (.returned (.tuple #[.agg EnV.zero.cells.toArray, .int .i64 8])) w') :
    Calls Tryz.prog 48 #[.pointer (some ⟨A.p, 0, none⟩), .string k, .func (.func 49) #[] #[.pointer (some ⟨B, 0, none⟩), .pointer (some ⟨D, 0, none⟩)]] w post := by
  have HK := hid K; clear K
  have HH := hid h
  obtain ⟨o, ho⟩ : ∃ o, bhas r.own k = o := ⟨_, rfl⟩
  obtain ⟨q0, hq0⟩ : ∃ q0, decide (r.quota ≤ (r.own.length : Int)) = q0 := ⟨_, rfl⟩
  obtain ⟨rb, hrb⟩ : ∃ rb, r.roomB k = rb := ⟨_, rfl⟩
  have hfb2 : ((!o && q0) || !rb) = false := by rw [← hfb, ← ho, ← hq0, ← hrb]; rfl
  have HFB := hid hfb2
  have HO := hid ho; have HR := hid hrb
  clear ho hrb hfb hfb2
  have HC := hid hc
  clear hc
  clear h
  go_enter Tryz.func48, Tryz.ntmps48
  go_upto_region 2 with (first
    | (refine wpl_allocA rfl rfl zero_en st ?_; rintro V w1 s1; have s2 : St W w1 (RepA A r :: row V 0 EnV.zero.cells :: row B 0 [.string k] :: row D 0 [.string v] :: R) := St.pick 1 s1; have l8 := (repLd s2).2.2.1)
    | (go_at_call 94; refine getB_c HH.out.own HH.out.ownL HH.out.ownT (St.pick 3 (RepA.open.1 s2)) ?_; rintro w3 s3; rw [HO.out]; have s4 : St W w3 (RepA A r :: row V 0 EnV.zero.cells :: row B 0 [.string k] :: row D 0 [.string v] :: R) := RepA.open.2 (s3.perm [1, 1, 1])))
  go_cut [42] (fun x wx => x = .bool false ∧ St W wx (RepA A r :: row V 0 EnV.zero.cells :: row B 0 [.string k] :: row D 0 [.string v] :: R))
  case first =>
    cases o with
    | true =>
      cases rb with
      | true =>
        try simp only [Act.put, List.setIfInBounds_toArray, List.set_cons_succ, List.set_cons_zero]
        have hN : Nonempty (Cls (fun w' => St W w' (RepA A r :: row V 0 EnV.zero.cells :: row B 0 [.string k] :: row D 0 [.string v] :: R))) := Cls.inh s4
        have f8 := fun s : Cls (fun w' => St W w' (RepA A r :: row V 0 EnV.zero.cells :: row B 0 [.string k] :: row D 0 [.string v] :: R)) => (repLd s.h).2.2.1
        have fq := fun s : Cls (fun w' => St W w' (RepA A r :: row V 0 EnV.zero.cells :: row B 0 [.string k] :: row D 0 [.string v] :: R)) => repQuota s.h
        refine wp_region_class (fun w' => St W w' (RepA A r :: row V 0 EnV.zero.cells :: row B 0 [.string k] :: row D 0 [.string v] :: R)) (by kernel_rfl) (by kernel_rfl) s4.drew ?_
        repeat (go_big_quiet_step ((rename_i s; first
          | (go_at_call 95; refine lenB_c HH.out.ownL (St.pick 3 (RepA.open.1 s.h)) ?_; exact Cls.end _ s.h)
          | (go_at_call 96; refine room_c HH.out s.h ?_; rintro w9 s9; rw [HR.out]; exact Cls.end _ s9))))
        clear hN f8 fq
        refine wpQuiet_nil ?_
        rintro ⟨w5, s5⟩
        dsimp only
        go_wp2_with fail
        go_meet
        case rel => exact ⟨by rw [← HFB.out] <;> rfl, s5⟩
      | false =>
        try simp only [Act.put, List.setIfInBounds_toArray, List.set_cons_succ, List.set_cons_zero]
        have hN : Nonempty (Cls (fun w' => St W w' (RepA A r :: row V 0 EnV.zero.cells :: row B 0 [.string k] :: row D 0 [.string v] :: R))) := Cls.inh s4
        have f8 := fun s : Cls (fun w' => St W w' (RepA A r :: row V 0 EnV.zero.cells :: row B 0 [.string k] :: row D 0 [.string v] :: R)) => (repLd s.h).2.2.1
        have fq := fun s : Cls (fun w' => St W w' (RepA A r :: row V 0 EnV.zero.cells :: row B 0 [.string k] :: row D 0 [.string v] :: R)) => repQuota s.h
        refine wp_region_class (fun w' => St W w' (RepA A r :: row V 0 EnV.zero.cells :: row B 0 [.string k] :: row D 0 [.string v] :: R)) (by kernel_rfl) (by kernel_rfl) s4.drew ?_
        repeat (go_big_quiet_step ((rename_i s; first
          | (go_at_call 95; refine lenB_c HH.out.ownL (St.pick 3 (RepA.open.1 s.h)) ?_; exact Cls.end _ s.h)
          | (go_at_call 96; refine room_c HH.out s.h ?_; rintro w9 s9; rw [HR.out]; exact Cls.end _ s9))))
        clear hN f8 fq
        refine wpQuiet_nil ?_
        rintro ⟨w5, s5⟩
        dsimp only
        go_wp2_with fail
        go_meet
        case rel => exact ⟨by rw [← HFB.out] <;> rfl, s5⟩
    | false =>
      cases q0 with
      | true =>
        try simp only [Act.put, List.setIfInBounds_toArray, List.set_cons_succ, List.set_cons_zero]
        have hN : Nonempty (Cls (fun w' => St W w' (RepA A r :: row V 0 EnV.zero.cells :: row B 0 [.string k] :: row D 0 [.string v] :: R))) := Cls.inh s4
        have f8 := fun s : Cls (fun w' => St W w' (RepA A r :: row V 0 EnV.zero.cells :: row B 0 [.string k] :: row D 0 [.string v] :: R)) => (repLd s.h).2.2.1
        have fq := fun s : Cls (fun w' => St W w' (RepA A r :: row V 0 EnV.zero.cells :: row B 0 [.string k] :: row D 0 [.string v] :: R)) => repQuota s.h
        refine wp_region_class (fun w' => St W w' (RepA A r :: row V 0 EnV.zero.cells :: row B 0 [.string k] :: row D 0 [.string v] :: R)) (by kernel_rfl) (by kernel_rfl) s4.drew ?_
        repeat (go_big_quiet_step ((rename_i s; first
          | (go_at_call 95; refine lenB_c HH.out.ownL (St.pick 3 (RepA.open.1 s.h)) ?_; exact Cls.end _ s.h)
          | (go_at_call 96; refine room_c HH.out s.h ?_; rintro w9 s9; rw [HR.out]; exact Cls.end _ s9))))
        clear hN f8 fq
        refine wpQuiet_nil ?_
        rintro ⟨w5, s5⟩
        dsimp only
        go_wp2_with fail
        go_meet
        case rel => exact ⟨by rw [← HFB.out] <;> rfl, s5⟩
      | false =>
        cases rb with
        | true =>
          try simp only [Act.put, List.setIfInBounds_toArray, List.set_cons_succ, List.set_cons_zero]
          have hN : Nonempty (Cls (fun w' => St W w' (RepA A r :: row V 0 EnV.zero.cells :: row B 0 [.string k] :: row D 0 [.string v] :: R))) := Cls.inh s4
          have f8 := fun s : Cls (fun w' => St W w' (RepA A r :: row V 0 EnV.zero.cells :: row B 0 [.string k] :: row D 0 [.string v] :: R)) => (repLd s.h).2.2.1
          have fq := fun s : Cls (fun w' => St W w' (RepA A r :: row V 0 EnV.zero.cells :: row B 0 [.string k] :: row D 0 [.string v] :: R)) => repQuota s.h
          refine wp_region_class (fun w' => St W w' (RepA A r :: row V 0 EnV.zero.cells :: row B 0 [.string k] :: row D 0 [.string v] :: R)) (by kernel_rfl) (by kernel_rfl) s4.drew ?_
          repeat (go_big_quiet_step ((rename_i s; first
            | (go_at_call 95; refine lenB_c HH.out.ownL (St.pick 3 (RepA.open.1 s.h)) ?_; exact Cls.end _ s.h)
            | (go_at_call 96; refine room_c HH.out s.h ?_; rintro w9 s9; rw [HR.out]; exact Cls.end _ s9))))
          clear hN f8 fq
          refine wpQuiet_nil ?_
          rintro ⟨w5, s5⟩
          dsimp only
          go_wp2_with fail
          go_meet
          case rel => exact ⟨by rw [← HFB.out] <;> rfl, s5⟩
        | false =>
          try simp only [Act.put, List.setIfInBounds_toArray, List.set_cons_succ, List.set_cons_zero]
          have hN : Nonempty (Cls (fun w' => St W w' (RepA A r :: row V 0 EnV.zero.cells :: row B 0 [.string k] :: row D 0 [.string v] :: R))) := Cls.inh s4
          have f8 := fun s : Cls (fun w' => St W w' (RepA A r :: row V 0 EnV.zero.cells :: row B 0 [.string k] :: row D 0 [.string v] :: R)) => (repLd s.h).2.2.1
          have fq := fun s : Cls (fun w' => St W w' (RepA A r :: row V 0 EnV.zero.cells :: row B 0 [.string k] :: row D 0 [.string v] :: R)) => repQuota s.h
          refine wp_region_class (fun w' => St W w' (RepA A r :: row V 0 EnV.zero.cells :: row B 0 [.string k] :: row D 0 [.string v] :: R)) (by kernel_rfl) (by kernel_rfl) s4.drew ?_
          repeat (go_big_quiet_step ((rename_i s; first
            | (go_at_call 95; refine lenB_c HH.out.ownL (St.pick 3 (RepA.open.1 s.h)) ?_; exact Cls.end _ s.h)
            | (go_at_call 96; refine room_c HH.out s.h ?_; rintro w9 s9; rw [HR.out]; exact Cls.end _ s9))))
          clear hN f8 fq
          refine wpQuiet_nil ?_
          rintro ⟨w5, s5⟩
          dsimp only
          go_wp2_with fail
          go_meet
          case rel => exact ⟨by rw [← HFB.out] <;> rfl, s5⟩
  case rest =>
  obtain ⟨rfl, s6⟩ := hcut
  clear HFB HO HR
  have l5 := (repLd s6).1
  go_wp2_with (first
    | (go_at_call 97; refine next_no HC.out (St.pick 1 (RepA.open.1 s6)) ?_; rintro w7 s7; have s8 : St W w7 (RepA A r :: row V 0 EnV.zero.cells :: row B 0 [.string k] :: row D 0 [.string v] :: R) := RepA.open.2 (s7.perm [1]))
    | (refine wpl_allocA rfl rfl zero_st s8 ?_; rintro N w9 s9)
    | (refine wpl_storeA (vs := [.int .i64 0, .int .i64 0]) rfl (.tmp 10) (.tmp 50) (by rfl) agg_st (by rfl) (by rfl) rfl (st_one _ _) s9 rfl ?_; rintro wa sa)
    | (refine wpl_build rfl rfl (v := .agg EnV.zero.cells.toArray) (by kernel_rfl) ?_)
    | (refine wpl_storeA (vs := EnV.zero.cells) rfl (.tmp 6) (.tmp 54) (by rfl) agg_en (by rfl) (by rfl) rfl (env_one _) (St.pick 2 sa) rfl ?_; rintro wz sz))
  have hL := run_loadA agg_en (vs := EnV.zero.cells) rfl sz.rowAll
  exact bodyPost_ret (v := .tuple #[.agg (EnV.zero.cells).toArray, .int .i64 8]) (by simp [results, Tryz.results48, asAddr, hL]) rfl (HK.out _ (sz.dropN 2))

set_option maxRecDepth 100000 in
set_option maxHeartbeats 8000000 in
theorem write_bad {B D : Nat} {k v : ByteArray} (h : RepOK r) (hfb : r.fullB k = false) (hn : r.cnt < 4294967295) (hw : ¬ checkE (putE k v (r.cnt + 1) r.site) = 0) (st : St W w (RepA A r :: row B 0 [.string k] :: row D 0 [.string v] :: R))
    (K : ∀ w', St W w' (RepA A { r with cnt := r.cnt + 1 } :: row B 0 [.string k] :: row D 0 [.string v] :: R) → post (.returned (.tuple #[.agg EnV.zero.cells.toArray, .int .i64 (checkE (putE k v (r.cnt + 1) r.site))])) w') :
    Calls Tryz.prog 48 #[.pointer (some ⟨A.p, 0, none⟩), .string k, .func (.func 49) #[] #[.pointer (some ⟨B, 0, none⟩), .pointer (some ⟨D, 0, none⟩)]] w post := by
  have HK := hid K; clear K
  have HH := hid h
  obtain ⟨o, ho⟩ : ∃ o, bhas r.own k = o := ⟨_, rfl⟩
  obtain ⟨q0, hq0⟩ : ∃ q0, decide (r.quota ≤ (r.own.length : Int)) = q0 := ⟨_, rfl⟩
  obtain ⟨rb, hrb⟩ : ∃ rb, r.roomB k = rb := ⟨_, rfl⟩
  have hfb2 : ((!o && q0) || !rb) = false := by rw [← hfb, ← ho, ← hq0, ← hrb]; rfl
  have HFB := hid hfb2
  have HO := hid ho; have HR := hid hrb
  clear ho hrb hfb hfb2
  have HN : Hid (r.cnt < 4294967295) := hid hn
  have HN0 : Hid (0 ≤ r.cnt) := hid h.cnt
  obtain ⟨q, hq⟩ : ∃ q : RepV, q = { r with cnt := r.cnt + 1 } := ⟨_, rfl⟩
  have hqo : RepOK q := by rw [hq]; exact h.withC (by have := h.cnt; omega)
  have HQ := hid hq
  have HQO := hid hqo
  obtain ⟨n, hnn⟩ : ∃ n, r.cnt + 1 = n := ⟨_, rfl⟩
  have HNN := hid hnn
  rw [hnn] at hw
  obtain ⟨c, hcc⟩ : ∃ c, checkE (putE k v n r.site) = c := ⟨_, rfl⟩
  have HX := hid hcc
  obtain ⟨f, hff⟩ : ∃ f, (if checkE (putE k v n r.site) = 0 then putE k v n r.site else EnV.zero) = f := ⟨_, rfl⟩
  have HF := hid hff
  have h1 : (c == 0) = false := by rw [← hcc]; simp [hw]
  have h2 : (c != 0) = true := by rw [← hcc]; simp [hw]
  have HK2 : Hid (∀ w', St W w' (RepA A q :: row B 0 [.string k] :: row D 0 [.string v] :: R) → post (.returned (.tuple #[.agg EnV.zero.cells.toArray, .int .i64 c])) w') := hid (by rw [hq, ← hcc, ← hnn]; exact HK.out)
  clear hq hqo hnn hn hcc hff hw HK
  clear h
  go_enter Tryz.func48, Tryz.ntmps48
  go_upto_region 2 with (first
    | (refine wpl_allocA rfl rfl zero_en st ?_; rintro V w1 s1; have s2 : St W w1 (RepA A r :: row V 0 EnV.zero.cells :: row B 0 [.string k] :: row D 0 [.string v] :: R) := St.pick 1 s1; have l8 := (repLd s2).2.2.1)
    | (go_at_call 94; refine getB_c HH.out.own HH.out.ownL HH.out.ownT (St.pick 3 (RepA.open.1 s2)) ?_; rintro w3 s3; rw [HO.out]; have s4 : St W w3 (RepA A r :: row V 0 EnV.zero.cells :: row B 0 [.string k] :: row D 0 [.string v] :: R) := RepA.open.2 (s3.perm [1, 1, 1])))
  go_cut [42] (fun x wx => x = .bool false ∧ St W wx (RepA A r :: row V 0 EnV.zero.cells :: row B 0 [.string k] :: row D 0 [.string v] :: R))
  case first =>
    cases o with
    | true =>
      cases rb with
      | true =>
        try simp only [Act.put, List.setIfInBounds_toArray, List.set_cons_succ, List.set_cons_zero]
        have hN : Nonempty (Cls (fun w' => St W w' (RepA A r :: row V 0 EnV.zero.cells :: row B 0 [.string k] :: row D 0 [.string v] :: R))) := Cls.inh s4
        have f8 := fun s : Cls (fun w' => St W w' (RepA A r :: row V 0 EnV.zero.cells :: row B 0 [.string k] :: row D 0 [.string v] :: R)) => (repLd s.h).2.2.1
        have fq := fun s : Cls (fun w' => St W w' (RepA A r :: row V 0 EnV.zero.cells :: row B 0 [.string k] :: row D 0 [.string v] :: R)) => repQuota s.h
        refine wp_region_class (fun w' => St W w' (RepA A r :: row V 0 EnV.zero.cells :: row B 0 [.string k] :: row D 0 [.string v] :: R)) (by kernel_rfl) (by kernel_rfl) s4.drew ?_
        repeat (go_big_quiet_step ((rename_i s; first
          | (go_at_call 95; refine lenB_c HH.out.ownL (St.pick 3 (RepA.open.1 s.h)) ?_; exact Cls.end _ s.h)
          | (go_at_call 96; refine room_c HH.out s.h ?_; rintro w9 s9; rw [HR.out]; exact Cls.end _ s9))))
        clear hN f8 fq
        refine wpQuiet_nil ?_
        rintro ⟨w5, s5⟩
        dsimp only
        go_wp2_with fail
        go_meet
        case rel => exact ⟨by rw [← HFB.out] <;> rfl, s5⟩
      | false =>
        try simp only [Act.put, List.setIfInBounds_toArray, List.set_cons_succ, List.set_cons_zero]
        have hN : Nonempty (Cls (fun w' => St W w' (RepA A r :: row V 0 EnV.zero.cells :: row B 0 [.string k] :: row D 0 [.string v] :: R))) := Cls.inh s4
        have f8 := fun s : Cls (fun w' => St W w' (RepA A r :: row V 0 EnV.zero.cells :: row B 0 [.string k] :: row D 0 [.string v] :: R)) => (repLd s.h).2.2.1
        have fq := fun s : Cls (fun w' => St W w' (RepA A r :: row V 0 EnV.zero.cells :: row B 0 [.string k] :: row D 0 [.string v] :: R)) => repQuota s.h
        refine wp_region_class (fun w' => St W w' (RepA A r :: row V 0 EnV.zero.cells :: row B 0 [.string k] :: row D 0 [.string v] :: R)) (by kernel_rfl) (by kernel_rfl) s4.drew ?_
        repeat (go_big_quiet_step ((rename_i s; first
          | (go_at_call 95; refine lenB_c HH.out.ownL (St.pick 3 (RepA.open.1 s.h)) ?_; exact Cls.end _ s.h)
          | (go_at_call 96; refine room_c HH.out s.h ?_; rintro w9 s9; rw [HR.out]; exact Cls.end _ s9))))
        clear hN f8 fq
        refine wpQuiet_nil ?_
        rintro ⟨w5, s5⟩
        dsimp only
        go_wp2_with fail
        go_meet
        case rel => exact ⟨by rw [← HFB.out] <;> rfl, s5⟩
    | false =>
      cases q0 with
      | true =>
        try simp only [Act.put, List.setIfInBounds_toArray, List.set_cons_succ, List.set_cons_zero]
        have hN : Nonempty (Cls (fun w' => St W w' (RepA A r :: row V 0 EnV.zero.cells :: row B 0 [.string k] :: row D 0 [.string v] :: R))) := Cls.inh s4
        have f8 := fun s : Cls (fun w' => St W w' (RepA A r :: row V 0 EnV.zero.cells :: row B 0 [.string k] :: row D 0 [.string v] :: R)) => (repLd s.h).2.2.1
        have fq := fun s : Cls (fun w' => St W w' (RepA A r :: row V 0 EnV.zero.cells :: row B 0 [.string k] :: row D 0 [.string v] :: R)) => repQuota s.h
        refine wp_region_class (fun w' => St W w' (RepA A r :: row V 0 EnV.zero.cells :: row B 0 [.string k] :: row D 0 [.string v] :: R)) (by kernel_rfl) (by kernel_rfl) s4.drew ?_
        repeat (go_big_quiet_step ((rename_i s; first
          | (go_at_call 95; refine lenB_c HH.out.ownL (St.pick 3 (RepA.open.1 s.h)) ?_; exact Cls.end _ s.h)
          | (go_at_call 96; refine room_c HH.out s.h ?_; rintro w9 s9; rw [HR.out]; exact Cls.end _ s9))))
        clear hN f8 fq
        refine wpQuiet_nil ?_
        rintro ⟨w5, s5⟩
        dsimp only
        go_wp2_with fail
        go_meet
        case rel => exact ⟨by rw [← HFB.out] <;> rfl, s5⟩
      | false =>
        cases rb with
        | true =>
          try simp only [Act.put, List.setIfInBounds_toArray, List.set_cons_succ, List.set_cons_zero]
          have hN : Nonempty (Cls (fun w' => St W w' (RepA A r :: row V 0 EnV.zero.cells :: row B 0 [.string k] :: row D 0 [.string v] :: R))) := Cls.inh s4
          have f8 := fun s : Cls (fun w' => St W w' (RepA A r :: row V 0 EnV.zero.cells :: row B 0 [.string k] :: row D 0 [.string v] :: R)) => (repLd s.h).2.2.1
          have fq := fun s : Cls (fun w' => St W w' (RepA A r :: row V 0 EnV.zero.cells :: row B 0 [.string k] :: row D 0 [.string v] :: R)) => repQuota s.h
          refine wp_region_class (fun w' => St W w' (RepA A r :: row V 0 EnV.zero.cells :: row B 0 [.string k] :: row D 0 [.string v] :: R)) (by kernel_rfl) (by kernel_rfl) s4.drew ?_
          repeat (go_big_quiet_step ((rename_i s; first
            | (go_at_call 95; refine lenB_c HH.out.ownL (St.pick 3 (RepA.open.1 s.h)) ?_; exact Cls.end _ s.h)
            | (go_at_call 96; refine room_c HH.out s.h ?_; rintro w9 s9; rw [HR.out]; exact Cls.end _ s9))))
          clear hN f8 fq
          refine wpQuiet_nil ?_
          rintro ⟨w5, s5⟩
          dsimp only
          go_wp2_with fail
          go_meet
          case rel => exact ⟨by rw [← HFB.out] <;> rfl, s5⟩
        | false =>
          try simp only [Act.put, List.setIfInBounds_toArray, List.set_cons_succ, List.set_cons_zero]
          have hN : Nonempty (Cls (fun w' => St W w' (RepA A r :: row V 0 EnV.zero.cells :: row B 0 [.string k] :: row D 0 [.string v] :: R))) := Cls.inh s4
          have f8 := fun s : Cls (fun w' => St W w' (RepA A r :: row V 0 EnV.zero.cells :: row B 0 [.string k] :: row D 0 [.string v] :: R)) => (repLd s.h).2.2.1
          have fq := fun s : Cls (fun w' => St W w' (RepA A r :: row V 0 EnV.zero.cells :: row B 0 [.string k] :: row D 0 [.string v] :: R)) => repQuota s.h
          refine wp_region_class (fun w' => St W w' (RepA A r :: row V 0 EnV.zero.cells :: row B 0 [.string k] :: row D 0 [.string v] :: R)) (by kernel_rfl) (by kernel_rfl) s4.drew ?_
          repeat (go_big_quiet_step ((rename_i s; first
            | (go_at_call 95; refine lenB_c HH.out.ownL (St.pick 3 (RepA.open.1 s.h)) ?_; exact Cls.end _ s.h)
            | (go_at_call 96; refine room_c HH.out s.h ?_; rintro w9 s9; rw [HR.out]; exact Cls.end _ s9))))
          clear hN f8 fq
          refine wpQuiet_nil ?_
          rintro ⟨w5, s5⟩
          dsimp only
          go_wp2_with fail
          go_meet
          case rel => exact ⟨by rw [← HFB.out] <;> rfl, s5⟩
  case rest =>
  obtain ⟨rfl, s6⟩ := hcut
  clear HFB HO HR
  have l5 := (repLd s6).1
  go_wp2_with (first
    | (go_at_call 97; refine next_c HN.out HN0.out (St.pick 1 (RepA.open.1 s6)) ?_; rintro w7 s7; rw [HNN.out]; have s8 : St W w7 (RepA A q :: row V 0 EnV.zero.cells :: row B 0 [.string k] :: row D 0 [.string v] :: R) := (by rw [HQ.out]; exact RepA.open.2 (s7.perm [1])))
    | (refine wpl_allocA rfl rfl zero_st s8 ?_; rintro N w9 s9)
    | (refine wpl_storeA (vs := [.int .i64 n, .int .i64 r.site]) rfl (.tmp 10) (.tmp 50) (by rfl) agg_st (by rfl) (by rfl) rfl (st_one _ _) s9 rfl ?_; rintro wa sa; have lN := run_loadG agg_st (vs := [.int .i64 n, .int .i64 r.site]) rfl sa.rowAll)
    | (go_at_call 49; refine put1_c (sa.perm [3, 3]) ?_; rintro wb sb; rw [HF.out, HX.out])
    | (refine wpl_allocA rfl rfl zero_en sb ?_; rintro M wc sc)
    | (refine wpl_storeA (vs := f.cells) rfl (.tmp 12) (.tmp 60) (by rfl) agg_en (by rfl) (by rfl) rfl (env_one _) sc rfl ?_; rintro wd sd; have lM := run_loadG agg_en (vs := f.cells) rfl sd.rowAll; have s1d : St W wd (RepA A q :: row M 0 f.cells :: row B 0 [.string k] :: row D 0 [.string v] :: row N 0 [.int .i64 n, .int .i64 r.site] :: row V 0 EnV.zero.cells :: R) := St.pick 4 sd)
    | (refine wpl_build rfl rfl (v := .agg EnV.zero.cells.toArray) (by kernel_rfl) ?_)
    | (refine wpl_storeA (vs := EnV.zero.cells) rfl (.tmp 6) (.tmp 69) (by rfl) agg_en (by rfl) (by rfl) rfl (env_one _) (St.pick 5 s1d) rfl ?_; rintro wz sz))
  have hL := run_loadA agg_en (vs := EnV.zero.cells) rfl sz.rowAll
  exact bodyPost_ret (v := .tuple #[.agg (EnV.zero.cells).toArray, .int .i64 c]) (by simp [results, Tryz.results48, asAddr, hL]) rfl (HK2.out _ ((sz.perm [0, 1, 3]).dropN 3))

set_option maxRecDepth 100000 in
set_option maxHeartbeats 8000000 in
theorem write_set {B D : Nat} {k v : ByteArray} (h : RepOK r) (hfb : r.fullB k = false) (hn : r.cnt < 4294967295) (hw : checkE (putE k v (r.cnt + 1) r.site) = 0) (hs : ¬ { r with cnt := r.cnt + 1 }.setW (putE k v (r.cnt + 1) r.site) = 0) (st : St W w (RepA A r :: row B 0 [.string k] :: row D 0 [.string v] :: R))
    (K : ∀ w', St W w' (RepA A ({ r with cnt := r.cnt + 1 }.set (putE k v (r.cnt + 1) r.site)) :: row B 0 [.string k] :: row D 0 [.string v] :: R) → post (.returned (.tuple #[.agg EnV.zero.cells.toArray, .int .i64 ({ r with cnt := r.cnt + 1 }.setW (putE k v (r.cnt + 1) r.site))])) w') :
    Calls Tryz.prog 48 #[.pointer (some ⟨A.p, 0, none⟩), .string k, .func (.func 49) #[] #[.pointer (some ⟨B, 0, none⟩), .pointer (some ⟨D, 0, none⟩)]] w post := by
  have HK := hid K; clear K
  have HH := hid h
  obtain ⟨o, ho⟩ : ∃ o, bhas r.own k = o := ⟨_, rfl⟩
  obtain ⟨q0, hq0⟩ : ∃ q0, decide (r.quota ≤ (r.own.length : Int)) = q0 := ⟨_, rfl⟩
  obtain ⟨rb, hrb⟩ : ∃ rb, r.roomB k = rb := ⟨_, rfl⟩
  have hfb2 : ((!o && q0) || !rb) = false := by rw [← hfb, ← ho, ← hq0, ← hrb]; rfl
  have HFB := hid hfb2
  have HO := hid ho; have HR := hid hrb
  clear ho hrb hfb hfb2
  have HN : Hid (r.cnt < 4294967295) := hid hn
  have HN0 : Hid (0 ≤ r.cnt) := hid h.cnt
  obtain ⟨q, hq⟩ : ∃ q : RepV, q = { r with cnt := r.cnt + 1 } := ⟨_, rfl⟩
  have hqo : RepOK q := by rw [hq]; exact h.withC (by have := h.cnt; omega)
  have HQ := hid hq
  have HQO := hid hqo
  obtain ⟨n, hnn⟩ : ∃ n, r.cnt + 1 = n := ⟨_, rfl⟩
  have HNN := hid hnn
  rw [hnn] at hw
  have HX := hid hw
  obtain ⟨f, hff⟩ : ∃ f, putE k v n r.site = f := ⟨_, rfl⟩
  have HF : Hid ((if checkE (putE k v n r.site) = 0 then putE k v n r.site else EnV.zero) = f) := hid (by rw [if_pos hw]; exact hff)
  obtain ⟨z, hz⟩ : ∃ z, q.setW f = z := ⟨_, rfl⟩
  have HZ := hid hz
  rw [← hq, hnn, hff, hz] at hs
  have h2 : (z != 0) = true := by simp [hs]
  have HK2 : Hid (∀ w', St W w' (RepA A (q.set f) :: row B 0 [.string k] :: row D 0 [.string v] :: R) → post (.returned (.tuple #[.agg EnV.zero.cells.toArray, .int .i64 z])) w') := hid (by rw [← hz, ← hff, ← hnn]; have := HK.out; rw [← hq] at this; exact this)
  clear hq hqo hnn hn hff hw hz hs HK
  clear h
  go_enter Tryz.func48, Tryz.ntmps48
  go_upto_region 2 with (first
    | (refine wpl_allocA rfl rfl zero_en st ?_; rintro V w1 s1; have s2 : St W w1 (RepA A r :: row V 0 EnV.zero.cells :: row B 0 [.string k] :: row D 0 [.string v] :: R) := St.pick 1 s1; have l8 := (repLd s2).2.2.1)
    | (go_at_call 94; refine getB_c HH.out.own HH.out.ownL HH.out.ownT (St.pick 3 (RepA.open.1 s2)) ?_; rintro w3 s3; rw [HO.out]; have s4 : St W w3 (RepA A r :: row V 0 EnV.zero.cells :: row B 0 [.string k] :: row D 0 [.string v] :: R) := RepA.open.2 (s3.perm [1, 1, 1])))
  go_cut [42] (fun x wx => x = .bool false ∧ St W wx (RepA A r :: row V 0 EnV.zero.cells :: row B 0 [.string k] :: row D 0 [.string v] :: R))
  case first =>
    cases o with
    | true =>
      cases rb with
      | true =>
        try simp only [Act.put, List.setIfInBounds_toArray, List.set_cons_succ, List.set_cons_zero]
        have hN : Nonempty (Cls (fun w' => St W w' (RepA A r :: row V 0 EnV.zero.cells :: row B 0 [.string k] :: row D 0 [.string v] :: R))) := Cls.inh s4
        have f8 := fun s : Cls (fun w' => St W w' (RepA A r :: row V 0 EnV.zero.cells :: row B 0 [.string k] :: row D 0 [.string v] :: R)) => (repLd s.h).2.2.1
        have fq := fun s : Cls (fun w' => St W w' (RepA A r :: row V 0 EnV.zero.cells :: row B 0 [.string k] :: row D 0 [.string v] :: R)) => repQuota s.h
        refine wp_region_class (fun w' => St W w' (RepA A r :: row V 0 EnV.zero.cells :: row B 0 [.string k] :: row D 0 [.string v] :: R)) (by kernel_rfl) (by kernel_rfl) s4.drew ?_
        repeat (go_big_quiet_step ((rename_i s; first
          | (go_at_call 95; refine lenB_c HH.out.ownL (St.pick 3 (RepA.open.1 s.h)) ?_; exact Cls.end _ s.h)
          | (go_at_call 96; refine room_c HH.out s.h ?_; rintro w9 s9; rw [HR.out]; exact Cls.end _ s9))))
        clear hN f8 fq
        refine wpQuiet_nil ?_
        rintro ⟨w5, s5⟩
        dsimp only
        go_wp2_with fail
        go_meet
        case rel => exact ⟨by rw [← HFB.out] <;> rfl, s5⟩
      | false =>
        try simp only [Act.put, List.setIfInBounds_toArray, List.set_cons_succ, List.set_cons_zero]
        have hN : Nonempty (Cls (fun w' => St W w' (RepA A r :: row V 0 EnV.zero.cells :: row B 0 [.string k] :: row D 0 [.string v] :: R))) := Cls.inh s4
        have f8 := fun s : Cls (fun w' => St W w' (RepA A r :: row V 0 EnV.zero.cells :: row B 0 [.string k] :: row D 0 [.string v] :: R)) => (repLd s.h).2.2.1
        have fq := fun s : Cls (fun w' => St W w' (RepA A r :: row V 0 EnV.zero.cells :: row B 0 [.string k] :: row D 0 [.string v] :: R)) => repQuota s.h
        refine wp_region_class (fun w' => St W w' (RepA A r :: row V 0 EnV.zero.cells :: row B 0 [.string k] :: row D 0 [.string v] :: R)) (by kernel_rfl) (by kernel_rfl) s4.drew ?_
        repeat (go_big_quiet_step ((rename_i s; first
          | (go_at_call 95; refine lenB_c HH.out.ownL (St.pick 3 (RepA.open.1 s.h)) ?_; exact Cls.end _ s.h)
          | (go_at_call 96; refine room_c HH.out s.h ?_; rintro w9 s9; rw [HR.out]; exact Cls.end _ s9))))
        clear hN f8 fq
        refine wpQuiet_nil ?_
        rintro ⟨w5, s5⟩
        dsimp only
        go_wp2_with fail
        go_meet
        case rel => exact ⟨by rw [← HFB.out] <;> rfl, s5⟩
    | false =>
      cases q0 with
      | true =>
        try simp only [Act.put, List.setIfInBounds_toArray, List.set_cons_succ, List.set_cons_zero]
        have hN : Nonempty (Cls (fun w' => St W w' (RepA A r :: row V 0 EnV.zero.cells :: row B 0 [.string k] :: row D 0 [.string v] :: R))) := Cls.inh s4
        have f8 := fun s : Cls (fun w' => St W w' (RepA A r :: row V 0 EnV.zero.cells :: row B 0 [.string k] :: row D 0 [.string v] :: R)) => (repLd s.h).2.2.1
        have fq := fun s : Cls (fun w' => St W w' (RepA A r :: row V 0 EnV.zero.cells :: row B 0 [.string k] :: row D 0 [.string v] :: R)) => repQuota s.h
        refine wp_region_class (fun w' => St W w' (RepA A r :: row V 0 EnV.zero.cells :: row B 0 [.string k] :: row D 0 [.string v] :: R)) (by kernel_rfl) (by kernel_rfl) s4.drew ?_
        repeat (go_big_quiet_step ((rename_i s; first
          | (go_at_call 95; refine lenB_c HH.out.ownL (St.pick 3 (RepA.open.1 s.h)) ?_; exact Cls.end _ s.h)
          | (go_at_call 96; refine room_c HH.out s.h ?_; rintro w9 s9; rw [HR.out]; exact Cls.end _ s9))))
        clear hN f8 fq
        refine wpQuiet_nil ?_
        rintro ⟨w5, s5⟩
        dsimp only
        go_wp2_with fail
        go_meet
        case rel => exact ⟨by rw [← HFB.out] <;> rfl, s5⟩
      | false =>
        cases rb with
        | true =>
          try simp only [Act.put, List.setIfInBounds_toArray, List.set_cons_succ, List.set_cons_zero]
          have hN : Nonempty (Cls (fun w' => St W w' (RepA A r :: row V 0 EnV.zero.cells :: row B 0 [.string k] :: row D 0 [.string v] :: R))) := Cls.inh s4
          have f8 := fun s : Cls (fun w' => St W w' (RepA A r :: row V 0 EnV.zero.cells :: row B 0 [.string k] :: row D 0 [.string v] :: R)) => (repLd s.h).2.2.1
          have fq := fun s : Cls (fun w' => St W w' (RepA A r :: row V 0 EnV.zero.cells :: row B 0 [.string k] :: row D 0 [.string v] :: R)) => repQuota s.h
          refine wp_region_class (fun w' => St W w' (RepA A r :: row V 0 EnV.zero.cells :: row B 0 [.string k] :: row D 0 [.string v] :: R)) (by kernel_rfl) (by kernel_rfl) s4.drew ?_
          repeat (go_big_quiet_step ((rename_i s; first
            | (go_at_call 95; refine lenB_c HH.out.ownL (St.pick 3 (RepA.open.1 s.h)) ?_; exact Cls.end _ s.h)
            | (go_at_call 96; refine room_c HH.out s.h ?_; rintro w9 s9; rw [HR.out]; exact Cls.end _ s9))))
          clear hN f8 fq
          refine wpQuiet_nil ?_
          rintro ⟨w5, s5⟩
          dsimp only
          go_wp2_with fail
          go_meet
          case rel => exact ⟨by rw [← HFB.out] <;> rfl, s5⟩
        | false =>
          try simp only [Act.put, List.setIfInBounds_toArray, List.set_cons_succ, List.set_cons_zero]
          have hN : Nonempty (Cls (fun w' => St W w' (RepA A r :: row V 0 EnV.zero.cells :: row B 0 [.string k] :: row D 0 [.string v] :: R))) := Cls.inh s4
          have f8 := fun s : Cls (fun w' => St W w' (RepA A r :: row V 0 EnV.zero.cells :: row B 0 [.string k] :: row D 0 [.string v] :: R)) => (repLd s.h).2.2.1
          have fq := fun s : Cls (fun w' => St W w' (RepA A r :: row V 0 EnV.zero.cells :: row B 0 [.string k] :: row D 0 [.string v] :: R)) => repQuota s.h
          refine wp_region_class (fun w' => St W w' (RepA A r :: row V 0 EnV.zero.cells :: row B 0 [.string k] :: row D 0 [.string v] :: R)) (by kernel_rfl) (by kernel_rfl) s4.drew ?_
          repeat (go_big_quiet_step ((rename_i s; first
            | (go_at_call 95; refine lenB_c HH.out.ownL (St.pick 3 (RepA.open.1 s.h)) ?_; exact Cls.end _ s.h)
            | (go_at_call 96; refine room_c HH.out s.h ?_; rintro w9 s9; rw [HR.out]; exact Cls.end _ s9))))
          clear hN f8 fq
          refine wpQuiet_nil ?_
          rintro ⟨w5, s5⟩
          dsimp only
          go_wp2_with fail
          go_meet
          case rel => exact ⟨by rw [← HFB.out] <;> rfl, s5⟩
  case rest =>
  obtain ⟨rfl, s6⟩ := hcut
  clear HFB HO HR
  have l5 := (repLd s6).1
  go_wp2_with (first
    | (go_at_call 97; refine next_c HN.out HN0.out (St.pick 1 (RepA.open.1 s6)) ?_; rintro w7 s7; rw [HNN.out]; have s8 : St W w7 (RepA A q :: row V 0 EnV.zero.cells :: row B 0 [.string k] :: row D 0 [.string v] :: R) := (by rw [HQ.out]; exact RepA.open.2 (s7.perm [1])))
    | (refine wpl_allocA rfl rfl zero_st s8 ?_; rintro N w9 s9)
    | (refine wpl_storeA (vs := [.int .i64 n, .int .i64 r.site]) rfl (.tmp 10) (.tmp 50) (by rfl) agg_st (by rfl) (by rfl) rfl (st_one _ _) s9 rfl ?_; rintro wa sa; have lN := run_loadG agg_st (vs := [.int .i64 n, .int .i64 r.site]) rfl sa.rowAll)
    | (go_at_call 49; refine put1_c (sa.perm [3, 3]) ?_; rintro wb sb; rw [HF.out, HX.out])
    | (refine wpl_allocA rfl rfl zero_en sb ?_; rintro M wc sc)
    | (refine wpl_storeA (vs := f.cells) rfl (.tmp 12) (.tmp 60) (by rfl) agg_en (by rfl) (by rfl) rfl (env_one _) sc rfl ?_; rintro wd sd; have lM := run_loadG agg_en (vs := f.cells) rfl sd.rowAll; have s1d : St W wd (RepA A q :: row M 0 f.cells :: row B 0 [.string k] :: row D 0 [.string v] :: row N 0 [.int .i64 n, .int .i64 r.site] :: row V 0 EnV.zero.cells :: R) := St.pick 4 sd)
    | (go_at_call 98; refine set_c HQO.out s1d ?_; rintro we se; rw [HZ.out])
    | (refine wpl_build rfl rfl (v := .agg EnV.zero.cells.toArray) (by kernel_rfl) ?_)
    | (refine wpl_storeA (vs := EnV.zero.cells) rfl (.tmp 6) (.tmp 69) (by rfl) agg_en (by rfl) (by rfl) rfl (env_one _) (St.pick 5 se) rfl ?_; rintro wz sz))
  have hL := run_loadA agg_en (vs := EnV.zero.cells) rfl sz.rowAll
  exact bodyPost_ret (v := .tuple #[.agg (EnV.zero.cells).toArray, .int .i64 z]) (by simp [results, Tryz.results48, asAddr, hL]) rfl (HK2.out _ ((sz.perm [0, 1, 3]).dropN 3))

set_option maxRecDepth 100000 in
set_option maxHeartbeats 8000000 in
theorem write_ok {B D : Nat} {k v : ByteArray} (h : RepOK r) (hfb : r.fullB k = false) (hn : r.cnt < 4294967295) (hw : checkE (putE k v (r.cnt + 1) r.site) = 0) (hs : { r with cnt := r.cnt + 1 }.setW (putE k v (r.cnt + 1) r.site) = 0) (st : St W w (RepA A r :: row B 0 [.string k] :: row D 0 [.string v] :: R))
    (K : ∀ w', St W w' (RepA A ({ r with cnt := r.cnt + 1 }.set (putE k v (r.cnt + 1) r.site)) :: row B 0 [.string k] :: row D 0 [.string v] :: R) → post (.returned (.tuple #[.agg (putE k v (r.cnt + 1) r.site).cells.toArray, .int .i64 0])) w') :
    Calls Tryz.prog 48 #[.pointer (some ⟨A.p, 0, none⟩), .string k, .func (.func 49) #[] #[.pointer (some ⟨B, 0, none⟩), .pointer (some ⟨D, 0, none⟩)]] w post := by
  have HK := hid K; clear K
  have HH := hid h
  obtain ⟨o, ho⟩ : ∃ o, bhas r.own k = o := ⟨_, rfl⟩
  obtain ⟨q0, hq0⟩ : ∃ q0, decide (r.quota ≤ (r.own.length : Int)) = q0 := ⟨_, rfl⟩
  obtain ⟨rb, hrb⟩ : ∃ rb, r.roomB k = rb := ⟨_, rfl⟩
  have hfb2 : ((!o && q0) || !rb) = false := by rw [← hfb, ← ho, ← hq0, ← hrb]; rfl
  have HFB := hid hfb2
  have HO := hid ho; have HR := hid hrb
  clear ho hrb hfb hfb2
  have HN : Hid (r.cnt < 4294967295) := hid hn
  have HN0 : Hid (0 ≤ r.cnt) := hid h.cnt
  obtain ⟨q, hq⟩ : ∃ q : RepV, q = { r with cnt := r.cnt + 1 } := ⟨_, rfl⟩
  have hqo : RepOK q := by rw [hq]; exact h.withC (by have := h.cnt; omega)
  have HQ := hid hq
  have HQO := hid hqo
  obtain ⟨n, hnn⟩ : ∃ n, r.cnt + 1 = n := ⟨_, rfl⟩
  have HNN := hid hnn
  rw [hnn] at hw
  have HX := hid hw
  obtain ⟨f, hff⟩ : ∃ f, putE k v n r.site = f := ⟨_, rfl⟩
  have HF : Hid ((if checkE (putE k v n r.site) = 0 then putE k v n r.site else EnV.zero) = f) := hid (by rw [if_pos hw]; exact hff)
  rw [← hq, hnn, hff] at hs
  have HZ := hid hs
  have HK2 : Hid (∀ w', St W w' (RepA A (q.set f) :: row B 0 [.string k] :: row D 0 [.string v] :: R) → post (.returned (.tuple #[.agg f.cells.toArray, .int .i64 0])) w') := hid (by rw [← hff, ← hnn]; have := HK.out; rw [← hq] at this; exact this)
  clear hq hqo hnn hn hff hw hs HK
  clear h
  go_enter Tryz.func48, Tryz.ntmps48
  go_upto_region 2 with (first
    | (refine wpl_allocA rfl rfl zero_en st ?_; rintro V w1 s1; have s2 : St W w1 (RepA A r :: row V 0 EnV.zero.cells :: row B 0 [.string k] :: row D 0 [.string v] :: R) := St.pick 1 s1; have l8 := (repLd s2).2.2.1)
    | (go_at_call 94; refine getB_c HH.out.own HH.out.ownL HH.out.ownT (St.pick 3 (RepA.open.1 s2)) ?_; rintro w3 s3; rw [HO.out]; have s4 : St W w3 (RepA A r :: row V 0 EnV.zero.cells :: row B 0 [.string k] :: row D 0 [.string v] :: R) := RepA.open.2 (s3.perm [1, 1, 1])))
  go_cut [42] (fun x wx => x = .bool false ∧ St W wx (RepA A r :: row V 0 EnV.zero.cells :: row B 0 [.string k] :: row D 0 [.string v] :: R))
  case first =>
    cases o with
    | true =>
      cases rb with
      | true =>
        try simp only [Act.put, List.setIfInBounds_toArray, List.set_cons_succ, List.set_cons_zero]
        have hN : Nonempty (Cls (fun w' => St W w' (RepA A r :: row V 0 EnV.zero.cells :: row B 0 [.string k] :: row D 0 [.string v] :: R))) := Cls.inh s4
        have f8 := fun s : Cls (fun w' => St W w' (RepA A r :: row V 0 EnV.zero.cells :: row B 0 [.string k] :: row D 0 [.string v] :: R)) => (repLd s.h).2.2.1
        have fq := fun s : Cls (fun w' => St W w' (RepA A r :: row V 0 EnV.zero.cells :: row B 0 [.string k] :: row D 0 [.string v] :: R)) => repQuota s.h
        refine wp_region_class (fun w' => St W w' (RepA A r :: row V 0 EnV.zero.cells :: row B 0 [.string k] :: row D 0 [.string v] :: R)) (by kernel_rfl) (by kernel_rfl) s4.drew ?_
        repeat (go_big_quiet_step ((rename_i s; first
          | (go_at_call 95; refine lenB_c HH.out.ownL (St.pick 3 (RepA.open.1 s.h)) ?_; exact Cls.end _ s.h)
          | (go_at_call 96; refine room_c HH.out s.h ?_; rintro w9 s9; rw [HR.out]; exact Cls.end _ s9))))
        clear hN f8 fq
        refine wpQuiet_nil ?_
        rintro ⟨w5, s5⟩
        dsimp only
        go_wp2_with fail
        go_meet
        case rel => exact ⟨by rw [← HFB.out] <;> rfl, s5⟩
      | false =>
        try simp only [Act.put, List.setIfInBounds_toArray, List.set_cons_succ, List.set_cons_zero]
        have hN : Nonempty (Cls (fun w' => St W w' (RepA A r :: row V 0 EnV.zero.cells :: row B 0 [.string k] :: row D 0 [.string v] :: R))) := Cls.inh s4
        have f8 := fun s : Cls (fun w' => St W w' (RepA A r :: row V 0 EnV.zero.cells :: row B 0 [.string k] :: row D 0 [.string v] :: R)) => (repLd s.h).2.2.1
        have fq := fun s : Cls (fun w' => St W w' (RepA A r :: row V 0 EnV.zero.cells :: row B 0 [.string k] :: row D 0 [.string v] :: R)) => repQuota s.h
        refine wp_region_class (fun w' => St W w' (RepA A r :: row V 0 EnV.zero.cells :: row B 0 [.string k] :: row D 0 [.string v] :: R)) (by kernel_rfl) (by kernel_rfl) s4.drew ?_
        repeat (go_big_quiet_step ((rename_i s; first
          | (go_at_call 95; refine lenB_c HH.out.ownL (St.pick 3 (RepA.open.1 s.h)) ?_; exact Cls.end _ s.h)
          | (go_at_call 96; refine room_c HH.out s.h ?_; rintro w9 s9; rw [HR.out]; exact Cls.end _ s9))))
        clear hN f8 fq
        refine wpQuiet_nil ?_
        rintro ⟨w5, s5⟩
        dsimp only
        go_wp2_with fail
        go_meet
        case rel => exact ⟨by rw [← HFB.out] <;> rfl, s5⟩
    | false =>
      cases q0 with
      | true =>
        try simp only [Act.put, List.setIfInBounds_toArray, List.set_cons_succ, List.set_cons_zero]
        have hN : Nonempty (Cls (fun w' => St W w' (RepA A r :: row V 0 EnV.zero.cells :: row B 0 [.string k] :: row D 0 [.string v] :: R))) := Cls.inh s4
        have f8 := fun s : Cls (fun w' => St W w' (RepA A r :: row V 0 EnV.zero.cells :: row B 0 [.string k] :: row D 0 [.string v] :: R)) => (repLd s.h).2.2.1
        have fq := fun s : Cls (fun w' => St W w' (RepA A r :: row V 0 EnV.zero.cells :: row B 0 [.string k] :: row D 0 [.string v] :: R)) => repQuota s.h
        refine wp_region_class (fun w' => St W w' (RepA A r :: row V 0 EnV.zero.cells :: row B 0 [.string k] :: row D 0 [.string v] :: R)) (by kernel_rfl) (by kernel_rfl) s4.drew ?_
        repeat (go_big_quiet_step ((rename_i s; first
          | (go_at_call 95; refine lenB_c HH.out.ownL (St.pick 3 (RepA.open.1 s.h)) ?_; exact Cls.end _ s.h)
          | (go_at_call 96; refine room_c HH.out s.h ?_; rintro w9 s9; rw [HR.out]; exact Cls.end _ s9))))
        clear hN f8 fq
        refine wpQuiet_nil ?_
        rintro ⟨w5, s5⟩
        dsimp only
        go_wp2_with fail
        go_meet
        case rel => exact ⟨by rw [← HFB.out] <;> rfl, s5⟩
      | false =>
        cases rb with
        | true =>
          try simp only [Act.put, List.setIfInBounds_toArray, List.set_cons_succ, List.set_cons_zero]
          have hN : Nonempty (Cls (fun w' => St W w' (RepA A r :: row V 0 EnV.zero.cells :: row B 0 [.string k] :: row D 0 [.string v] :: R))) := Cls.inh s4
          have f8 := fun s : Cls (fun w' => St W w' (RepA A r :: row V 0 EnV.zero.cells :: row B 0 [.string k] :: row D 0 [.string v] :: R)) => (repLd s.h).2.2.1
          have fq := fun s : Cls (fun w' => St W w' (RepA A r :: row V 0 EnV.zero.cells :: row B 0 [.string k] :: row D 0 [.string v] :: R)) => repQuota s.h
          refine wp_region_class (fun w' => St W w' (RepA A r :: row V 0 EnV.zero.cells :: row B 0 [.string k] :: row D 0 [.string v] :: R)) (by kernel_rfl) (by kernel_rfl) s4.drew ?_
          repeat (go_big_quiet_step ((rename_i s; first
            | (go_at_call 95; refine lenB_c HH.out.ownL (St.pick 3 (RepA.open.1 s.h)) ?_; exact Cls.end _ s.h)
            | (go_at_call 96; refine room_c HH.out s.h ?_; rintro w9 s9; rw [HR.out]; exact Cls.end _ s9))))
          clear hN f8 fq
          refine wpQuiet_nil ?_
          rintro ⟨w5, s5⟩
          dsimp only
          go_wp2_with fail
          go_meet
          case rel => exact ⟨by rw [← HFB.out] <;> rfl, s5⟩
        | false =>
          try simp only [Act.put, List.setIfInBounds_toArray, List.set_cons_succ, List.set_cons_zero]
          have hN : Nonempty (Cls (fun w' => St W w' (RepA A r :: row V 0 EnV.zero.cells :: row B 0 [.string k] :: row D 0 [.string v] :: R))) := Cls.inh s4
          have f8 := fun s : Cls (fun w' => St W w' (RepA A r :: row V 0 EnV.zero.cells :: row B 0 [.string k] :: row D 0 [.string v] :: R)) => (repLd s.h).2.2.1
          have fq := fun s : Cls (fun w' => St W w' (RepA A r :: row V 0 EnV.zero.cells :: row B 0 [.string k] :: row D 0 [.string v] :: R)) => repQuota s.h
          refine wp_region_class (fun w' => St W w' (RepA A r :: row V 0 EnV.zero.cells :: row B 0 [.string k] :: row D 0 [.string v] :: R)) (by kernel_rfl) (by kernel_rfl) s4.drew ?_
          repeat (go_big_quiet_step ((rename_i s; first
            | (go_at_call 95; refine lenB_c HH.out.ownL (St.pick 3 (RepA.open.1 s.h)) ?_; exact Cls.end _ s.h)
            | (go_at_call 96; refine room_c HH.out s.h ?_; rintro w9 s9; rw [HR.out]; exact Cls.end _ s9))))
          clear hN f8 fq
          refine wpQuiet_nil ?_
          rintro ⟨w5, s5⟩
          dsimp only
          go_wp2_with fail
          go_meet
          case rel => exact ⟨by rw [← HFB.out] <;> rfl, s5⟩
  case rest =>
  obtain ⟨rfl, s6⟩ := hcut
  clear HFB HO HR
  have l5 := (repLd s6).1
  go_wp2_with (first
    | (go_at_call 97; refine next_c HN.out HN0.out (St.pick 1 (RepA.open.1 s6)) ?_; rintro w7 s7; rw [HNN.out]; have s8 : St W w7 (RepA A q :: row V 0 EnV.zero.cells :: row B 0 [.string k] :: row D 0 [.string v] :: R) := (by rw [HQ.out]; exact RepA.open.2 (s7.perm [1])))
    | (refine wpl_allocA rfl rfl zero_st s8 ?_; rintro N w9 s9)
    | (refine wpl_storeA (vs := [.int .i64 n, .int .i64 r.site]) rfl (.tmp 10) (.tmp 50) (by rfl) agg_st (by rfl) (by rfl) rfl (st_one _ _) s9 rfl ?_; rintro wa sa; have lN := run_loadG agg_st (vs := [.int .i64 n, .int .i64 r.site]) rfl sa.rowAll)
    | (go_at_call 49; refine put1_c (sa.perm [3, 3]) ?_; rintro wb sb; rw [HF.out, HX.out])
    | (refine wpl_allocA rfl rfl zero_en sb ?_; rintro M wc sc)
    | (refine wpl_storeA (vs := f.cells) rfl (.tmp 12) (.tmp 60) (by rfl) agg_en (by rfl) (by rfl) rfl (env_one _) sc rfl ?_; rintro wd sd; have lM := run_loadG agg_en (vs := f.cells) rfl sd.rowAll; have s1d : St W wd (RepA A q :: row M 0 f.cells :: row B 0 [.string k] :: row D 0 [.string v] :: row N 0 [.int .i64 n, .int .i64 r.site] :: row V 0 EnV.zero.cells :: R) := St.pick 4 sd)
    | (go_at_call 98; refine set_c HQO.out s1d ?_; rintro we se; rw [HZ.out]; have mM := run_loadG agg_en (vs := f.cells) rfl (St.pick 1 se).rowAll)
    | (refine wpl_storeA (vs := f.cells) rfl (.tmp 6) (.tmp 71) (by rfl) agg_en (by rfl) (by rfl) rfl (env_one _) (St.pick 5 se) rfl ?_; rintro wz sz))
  have hL := run_loadA agg_en (vs := f.cells) rfl sz.rowAll
  exact bodyPost_ret (v := .tuple #[.agg (f.cells).toArray, .int .i64 0]) (by simp [results, Tryz.results48, asAddr, hL]) rfl (HK2.out _ ((sz.perm [0, 1, 3]).dropN 3))

/-- An entry of the site's own is set down, as Put makes it. -/
theorem write_c {B D : Nat} {k v : ByteArray} (h : RepOK r) (st : St W w (RepA A r :: row B 0 [.string k] :: row D 0 [.string v] :: R))
    (K : ∀ w', St W w' (RepA A (r.write k (putE k v)) :: row B 0 [.string k] :: row D 0 [.string v] :: R) → post (.returned (.tuple #[.agg (if r.writeW k (putE k v) = 0 then putE k v (r.cnt + 1) r.site else EnV.zero).cells.toArray, .int .i64 (r.writeW k (putE k v))])) w') :
    Calls Tryz.prog 48 #[.pointer (some ⟨A.p, 0, none⟩), .string k, .func (.func 49) #[] #[.pointer (some ⟨B, 0, none⟩), .pointer (some ⟨D, 0, none⟩)]] w post := by
  unfold RepV.write RepV.writeW at K
  cases hf : r.fullB k with
  | true =>
    simp only [hf, if_true] at K
    exact write_full h hf st K
  | false =>
    simp only [hf, Bool.false_eq_true, if_false] at K
    by_cases hc : 4294967295 ≤ r.cnt
    · simp only [if_pos hc] at K
      exact write_cnt h hf hc st K
    · simp only [if_neg hc] at K
      by_cases hw : checkE (putE k v (r.cnt + 1) r.site) = 0
      · have hw' : ¬ checkE (putE k v (r.cnt + 1) r.site) ≠ 0 := fun x => x hw
        simp only [if_neg hw'] at K
        by_cases hs : { r with cnt := r.cnt + 1 }.setW (putE k v (r.cnt + 1) r.site) = 0
        · simp only [if_pos hs] at K
          exact write_ok h hf (by omega) hw hs st (by intro w' s; have := K w' s; rwa [hs] at this)
        · simp only [if_neg hs] at K
          exact write_set h hf (by omega) hw hs st K
      · have hw' : checkE (putE k v (r.cnt + 1) r.site) ≠ 0 := hw
        simp only [if_pos hw', if_neg hw] at K
        exact write_bad h hf (by omega) hw st K
end
end Go.Proofs.YtojfjbbggpfijaaGreatDoor
