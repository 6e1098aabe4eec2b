/- Dels: several texts, joined. Delete's certificate; who keeps it. -/
import Derived.Test.YtggbeedghblakaaGreatDoorClks
import Derived.Test.YtggbeedghblakaaGreatDoorRepsG
import Derived.Test.YtggbeedghblakaaGreatDoorRepI
import Derived.Deep.DeepCutAuto
import Derived.Test.YtggbeedghblakaaGreatDoorRepJ
namespace Go.Proofs.YtggbeedghblakaaGreatDoor
open Go.RowKit Go.Qd RepV

/-- A certificate. -/
def delE (k : ByteArray) (kp : Int) (c s : Int) : EnV := ⟨k, ByteArray.empty, true, c, s, c, s, kp, 0⟩

section
variable {W w : World} {R : List HP} {post : Ending → World → Prop}
set_option maxRecDepth 100000 in
set_option maxHeartbeats 2000000 in
theorem edel_c {k : ByteArray} {kp c s : Int} (st : St W w R)
    (K : ∀ w', St W w' R → post (.returned (.tuple #[.agg (if checkE (delE k kp c s) = 0 then delE k kp c s else EnV.zero).cells.toArray, .int .i64 (checkE (delE k kp c s))])) w') :
    Calls Tryz.prog 87 #[.string k, .agg [Value.int .i64 c, .int .i64 s].toArray, .int .i64 kp] w post := by
  obtain ⟨f, hf⟩ : ∃ f, (if checkE (delE k kp c s) = 0 then delE k kp c s else EnV.zero) = f := ⟨_, rfl⟩
  rw [hf] at K
  have HF := hid hf
  clear hf
  have HK := hid K; clear K
  go_enter Tryz.func87, Tryz.ntmps87
  go_wp2_with (first
    | (refine wpl_boxA (vs := [.int .i64 c, .int .i64 s]) rfl (.tmp 1) rfl rfl st ?_; rintro T w1 s1)
    | (refine wpl_allocA rfl rfl zero_en s1 ?_; rintro U w2 s2)
    | (refine wpl_loadA (vs := [.int .i64 c, .int .i64 s]) rfl (.tmp 4) (by rfl) agg_st (by rfl) rfl (St.pick 1 s2).rowAll ?_)
    | (refine wpl_build rfl rfl (v := .agg (delE k kp c s).cells.toArray) (by kernel_rfl) ?_)
    | (go_at_call 135; refine checked_c s2 ?_; rintro w3 s3; rw [HF.out])
    | (refine wpl_storeA (vs := f.cells) rfl (.tmp 6) (.tmp 14) (by rfl) agg_en (by rfl) (by rfl) rfl (env_one _) s3 rfl ?_; rintro w4 s4))
  have hL := run_loadA agg_en rfl s4.rowAll
  exact bodyPost_ret (v := .tuple #[.agg f.cells.toArray, .int .i64 (checkE (delE k kp c s))]) (by simp [results, Tryz.results87, asAddr, hL]) rfl (HK.out _ (s4.dropN 2))

set_option maxRecDepth 100000 in
set_option maxHeartbeats 2000000 in
theorem del1_c {B D : Nat} {k : ByteArray} {v c s : Int} (st : St W w (row B 0 [.string k] :: row D 0 [.int .i64 v] :: R))
    (K : ∀ w', St W w' (row B 0 [.string k] :: row D 0 [.int .i64 v] :: R) → post (.returned (.tuple #[.agg (if checkE (delE k v c s) = 0 then delE k v c s else EnV.zero).cells.toArray, .int .i64 (checkE (delE k v c s))])) w') :
    Calls Tryz.prog 86 #[.agg [Value.int .i64 c, .int .i64 s].toArray, .pointer (some ⟨B, 0, none⟩), .pointer (some ⟨D, 0, none⟩)] w post := by
  obtain ⟨f, hf⟩ : ∃ f, (if checkE (delE k v c s) = 0 then delE k v c s else EnV.zero) = f := ⟨_, rfl⟩
  obtain ⟨x, hx⟩ : ∃ x, checkE (delE k v c s) = x := ⟨_, rfl⟩
  rw [hf, hx] at K
  have HF := hid hf; have HX := hid hx
  clear hf hx
  have HK := hid K; clear K
  go_enter Tryz.func86, Tryz.ntmps86
  go_wp2_with (first
    | (refine wpl_boxA (vs := [.int .i64 c, .int .i64 s]) rfl (.tmp 0) rfl rfl st ?_; rintro T w1 s1)
    | (refine wpl_allocA rfl rfl zero_en s1 ?_; rintro U w2 s2; have b0 := boxOne (St.pick 2 s2); have d0 := boxOne (St.pick 3 s2))
    | (refine wpl_loadA (vs := [.int .i64 c, .int .i64 s]) rfl (.tmp 3) (by rfl) agg_st (by rfl) rfl (St.pick 1 s2).rowAll ?_)
    | (go_at_call 87; refine edel_c s2 ?_; rintro w3 s3; rw [HF.out, HX.out])
    | (refine wpl_storeA (vs := f.cells) rfl (.tmp 4) (.tmp 10) (by rfl) agg_en (by rfl) (by rfl) rfl (env_one _) s3 rfl ?_; rintro w4 s4))
  have hL := run_loadA agg_en (vs := f.cells) rfl s4.rowAll
  exact bodyPost_ret (v := .tuple #[.agg f.cells.toArray, .int .i64 x]) (by simp [results, Tryz.results86, asAddr, hL]) rfl (HK.out _ (s4.dropN 2))

/-- The value of a live entry. -/
def liveB (r : RepV) (k : ByteArray) : Bool := thas r.tab k && !(tget r.tab k).dead
section
attribute [local go_sem ↓] execOp_ldAny execOp_stE
set_option maxRecDepth 100000 in
set_option maxHeartbeats 4000000 in
theorem rget_c {A : RAd} {r : RepV} {k : ByteArray} (h : RepOK r) (st : St W w (RepA A r :: R))
    (K : ∀ w', St W w' (RepA A r :: R) → post (.returned (.tuple #[.string (if liveB r k = true then (tget r.tab k).val else ByteArray.empty), .bool (liveB r k)])) w') :
    Calls Tryz.prog 48 #[.pointer (some ⟨A.p, 0, none⟩), .string k] w post := by
  have HK := hid K; clear K
  have HH := hid h
  have hl : r.tab.length ≤ 4096 := by have := h.len; have := h.room; omega
  have HL := hid hl
  obtain ⟨t, ht⟩ : ∃ t, thas r.tab k = t := ⟨_, rfl⟩
  obtain ⟨x, hx⟩ : ∃ x, tget r.tab k = x := ⟨_, rfl⟩
  have HT := hid ht; have HX := hid hx
  have HV : Hid (liveB r k = (t && !x.dead)) := hid (by unfold liveB; rw [ht, hx])
  clear h hl ht hx
  have l7 := (repLd st).2.1
  cases t with
  | false =>
    have HV2 : Hid (liveB r k = false) := hid (by rw [HV.out]; rfl)
    go_enter Tryz.func48, Tryz.ntmps48
    go_wp2_with (first
      | (go_at_call 70; refine getE_c HH.out.tab HL.out (St.pick 2 (RepA.open.1 st)) ?_; rintro w2 s2; rw [HT.out, HX.out])
      | (refine wpl_allocA rfl rfl zero_en s2 ?_; rintro T w3 s3)
      | (refine wpl_storeA (vs := x.cells) rfl (.tmp 6) (.tmp 15) (by rfl) agg_en (by rfl) (by rfl) rfl (env_one _) s3 rfl ?_; rintro w4 s4))
    have h9 := HK.out w4 (RepA.open.2 (s4.drop.perm [1, 1]))
    rw [HV2.out, if_neg (by decide)] at h9
    exact h9
  | true =>
    cases hd : x.dead with
    | true =>
      have HV2 : Hid (liveB r k = false) := hid (by rw [HV.out, hd]; rfl)
      have HD := hid hd
      clear hd
      go_enter Tryz.func48, Tryz.ntmps48
      go_wp2_with (first
        | (go_at_call 70; refine getE_c HH.out.tab HL.out (St.pick 2 (RepA.open.1 st)) ?_; rintro w2 s2; rw [HT.out, HX.out])
        | (refine wpl_allocA rfl rfl zero_en s2 ?_; rintro T w3 s3)
        | (refine wpl_storeA (vs := x.cells) rfl (.tmp 6) (.tmp 15) (by rfl) agg_en (by rfl) (by rfl) rfl (env_one _) s3 rfl ?_; rintro w4 s4; have ld := (enL s4).2.2.1; rw [HD.out] at ld))
      have h9 := HK.out w4 (RepA.open.2 (s4.drop.perm [1, 1]))
      rw [HV2.out, if_neg (by decide)] at h9
      exact h9
    | false =>
      have HV2 : Hid (liveB r k = true) := hid (by rw [HV.out, hd]; rfl)
      have HD := hid hd
      clear hd
      go_enter Tryz.func48, Tryz.ntmps48
      go_wp2_with (first
        | (go_at_call 70; refine getE_c HH.out.tab HL.out (St.pick 2 (RepA.open.1 st)) ?_; rintro w2 s2; rw [HT.out, HX.out])
        | (refine wpl_allocA rfl rfl zero_en s2 ?_; rintro T w3 s3)
        | (refine wpl_storeA (vs := x.cells) rfl (.tmp 6) (.tmp 15) (by rfl) agg_en (by rfl) (by rfl) rfl (env_one _) s3 rfl ?_; rintro w4 s4; have ld := (enL s4).2.2.1; rw [HD.out] at ld; have lv := (enL s4).2.1))
      have h9 := HK.out w4 (RepA.open.2 (s4.drop.perm [1, 1]))
      rw [HV2.out, if_pos rfl, HX.out] at h9
      exact h9
end

/-- Who keeps a site's certificates. -/
theorem keepers_c {site retain nodes : Int} (h1 : 0 ≤ site ∧ site < nodes) (h2 : 1 ≤ retain ∧ retain ≤ nodes) (h3 : nodes ≤ 12) (K : ∀ x, post (.returned (.int .i64 x)) w) :
    Calls Tryz.prog 84 #[.int .i64 site, .int .i64 retain, .int .i64 nodes] w post := by
  have HK := hid K; clear K
  have a1 : decide (nodes < 1) = false := by simp; omega
  have a2 : decide (nodes > 12) = false := by simp; omega
  have a3 : decide (site < 0) = false := by simp; omega
  have a4 : decide (site ≥ nodes) = false := by simp; omega
  have a5 : decide (retain < 1) = false := by simp; omega
  have a6 : decide (retain > nodes) = false := by simp; omega
  go_enter Tryz.func84, Tryz.ntmps84
  go_wp2_with fail
  go_loopw [7, 34] (fun bv iv wr => ∃ (x : Int) (i : Nat), (i : Int) ≤ retain ∧ iv = .int .i64 i ∧ bv = .int .i64 x ∧ wr = w) (fun _ iv _ => retain.toNat - (intOf iv).toNat)
  case atStart => exact ⟨0, 0, by omega, rfl, rfl, rfl⟩
  case round =>
    obtain ⟨x, i, hi, rfl, rfl, rfl⟩ := hrel
    by_cases hlt : (i : Int) < retain
    · have hm0 : 0 ≤ (site + (i : Int)) % nodes := Int.emod_nonneg _ (by omega)
      have hm1 : (site + (i : Int)) % nodes ≤ 64 := by have := Int.emod_lt_of_pos (site + (i : Int)) (b := nodes) (by omega); omega
      go_wp2_with fail
      go_roundw
      case rel => exact ⟨_, i + 1, by omega, by go_num, rfl, trivial⟩
      case measure => simp [intOf]; omega
    · go_wp2_with fail
      exact HK.out _
end
end Go.Proofs.YtggbeedghblakaaGreatDoor

/- The replica: write, with the closure of Delete. Printed by mkDelI.py. -/
namespace Go.Proofs.YtggbeedghblakaaGreatDoor
open Go.RowKit Go.Qd RepV

section
attribute [local go_sem ↓] execOp_ldAny
variable {W w : World} {R : List HP} {post : Ending → World → Prop} {A : RAd} {r : RepV}


set_option maxRecDepth 100000 in
set_option maxHeartbeats 8000000 in
theorem dwrite_full {B D : Nat} {k : ByteArray} {v : Int} (h : RepOK r) (hfb : r.fullB k = true) (st : St W w (RepA A r :: row B 0 [.string k] :: row D 0 [.int .i64 v] :: R))
    (K : ∀ w', St W w' (RepA A r :: row B 0 [.string k] :: row D 0 [.int .i64 v] :: R) → post (.returned (.tuple #[.agg EnV.zero.cells.toArray, .int .i64 7])) w') :
    Calls Tryz.prog 82 #[.pointer (some ⟨A.p, 0, none⟩), .string k, .func (.func 86) #[] #[.pointer (some ⟨B, 0, none⟩), .pointer (some ⟨D, 0, none⟩)]] w post := by
  have HK := hid K; clear K
  have HH := hid h
  obtain ⟨o, ho⟩ : ∃ o, bhas r.own k = o := ⟨_, rfl⟩
  obtain ⟨q0, hq0⟩ : ∃ q0, decide (r.quota ≤ (r.own.length : Int)) = q0 := ⟨_, rfl⟩
  obtain ⟨rb, hrb⟩ : ∃ rb, r.roomB k = rb := ⟨_, rfl⟩
  have hfb2 : ((!o && q0) || !rb) = true := by rw [← hfb, ← ho, ← hq0, ← hrb]; rfl
  have HFB := hid hfb2
  have HO := hid ho; have HR := hid hrb
  clear ho hrb hfb hfb2
  clear h
  go_enter Tryz.func82, Tryz.ntmps82
  go_upto_region 2 with (first
    | (refine wpl_allocA rfl rfl zero_en st ?_; rintro V w1 s1; have s2 : St W w1 (RepA A r :: row V 0 EnV.zero.cells :: row B 0 [.string k] :: row D 0 [.int .i64 v] :: R) := St.pick 1 s1; have l8 := (repLd s2).2.2.1)
    | (go_at_call 136; refine getB_c HH.out.own HH.out.ownL HH.out.ownT (St.pick 3 (RepA.open.1 s2)) ?_; rintro w3 s3; rw [HO.out]; have s4 : St W w3 (RepA A r :: row V 0 EnV.zero.cells :: row B 0 [.string k] :: row D 0 [.int .i64 v] :: R) := RepA.open.2 (s3.perm [1, 1, 1])))
  go_cut [42] (fun x wx => x = .bool true ∧ St W wx (RepA A r :: row V 0 EnV.zero.cells :: row B 0 [.string k] :: row D 0 [.int .i64 v] :: R))
  case first =>
    cases o with
    | true =>
      cases rb with
      | true =>
        try simp only [Act.put, List.setIfInBounds_toArray, List.set_cons_succ, List.set_cons_zero]
        have hN : Nonempty (Cls (fun w' => St W w' (RepA A r :: row V 0 EnV.zero.cells :: row B 0 [.string k] :: row D 0 [.int .i64 v] :: R))) := Cls.inh s4
        have f8 := fun s : Cls (fun w' => St W w' (RepA A r :: row V 0 EnV.zero.cells :: row B 0 [.string k] :: row D 0 [.int .i64 v] :: R)) => (repLd s.h).2.2.1
        have fq := fun s : Cls (fun w' => St W w' (RepA A r :: row V 0 EnV.zero.cells :: row B 0 [.string k] :: row D 0 [.int .i64 v] :: R)) => repQuota s.h
        refine wp_region_class (fun w' => St W w' (RepA A r :: row V 0 EnV.zero.cells :: row B 0 [.string k] :: row D 0 [.int .i64 v] :: R)) (by kernel_rfl) (by kernel_rfl) s4.drew ?_
        repeat (go_big_quiet_step ((rename_i s; first
          | (go_at_call 137; refine lenB_c HH.out.ownL (St.pick 3 (RepA.open.1 s.h)) ?_; exact Cls.end _ s.h)
          | (go_at_call 74; refine room_c HH.out s.h ?_; rintro w9 s9; rw [HR.out]; exact Cls.end _ s9))))
        clear hN f8 fq
        refine wpQuiet_nil ?_
        rintro ⟨w5, s5⟩
        dsimp only
        go_wp2_with fail
        go_meet
        case rel => exact ⟨by rw [← HFB.out] <;> rfl, s5⟩
      | false =>
        try simp only [Act.put, List.setIfInBounds_toArray, List.set_cons_succ, List.set_cons_zero]
        have hN : Nonempty (Cls (fun w' => St W w' (RepA A r :: row V 0 EnV.zero.cells :: row B 0 [.string k] :: row D 0 [.int .i64 v] :: R))) := Cls.inh s4
        have f8 := fun s : Cls (fun w' => St W w' (RepA A r :: row V 0 EnV.zero.cells :: row B 0 [.string k] :: row D 0 [.int .i64 v] :: R)) => (repLd s.h).2.2.1
        have fq := fun s : Cls (fun w' => St W w' (RepA A r :: row V 0 EnV.zero.cells :: row B 0 [.string k] :: row D 0 [.int .i64 v] :: R)) => repQuota s.h
        refine wp_region_class (fun w' => St W w' (RepA A r :: row V 0 EnV.zero.cells :: row B 0 [.string k] :: row D 0 [.int .i64 v] :: R)) (by kernel_rfl) (by kernel_rfl) s4.drew ?_
        repeat (go_big_quiet_step ((rename_i s; first
          | (go_at_call 137; refine lenB_c HH.out.ownL (St.pick 3 (RepA.open.1 s.h)) ?_; exact Cls.end _ s.h)
          | (go_at_call 74; refine room_c HH.out s.h ?_; rintro w9 s9; rw [HR.out]; exact Cls.end _ s9))))
        clear hN f8 fq
        refine wpQuiet_nil ?_
        rintro ⟨w5, s5⟩
        dsimp only
        go_wp2_with fail
        go_meet
        case rel => exact ⟨by rw [← HFB.out] <;> rfl, s5⟩
    | false =>
      cases q0 with
      | true =>
        try simp only [Act.put, List.setIfInBounds_toArray, List.set_cons_succ, List.set_cons_zero]
        have hN : Nonempty (Cls (fun w' => St W w' (RepA A r :: row V 0 EnV.zero.cells :: row B 0 [.string k] :: row D 0 [.int .i64 v] :: R))) := Cls.inh s4
        have f8 := fun s : Cls (fun w' => St W w' (RepA A r :: row V 0 EnV.zero.cells :: row B 0 [.string k] :: row D 0 [.int .i64 v] :: R)) => (repLd s.h).2.2.1
        have fq := fun s : Cls (fun w' => St W w' (RepA A r :: row V 0 EnV.zero.cells :: row B 0 [.string k] :: row D 0 [.int .i64 v] :: R)) => repQuota s.h
        refine wp_region_class (fun w' => St W w' (RepA A r :: row V 0 EnV.zero.cells :: row B 0 [.string k] :: row D 0 [.int .i64 v] :: R)) (by kernel_rfl) (by kernel_rfl) s4.drew ?_
        repeat (go_big_quiet_step ((rename_i s; first
          | (go_at_call 137; refine lenB_c HH.out.ownL (St.pick 3 (RepA.open.1 s.h)) ?_; exact Cls.end _ s.h)
          | (go_at_call 74; refine room_c HH.out s.h ?_; rintro w9 s9; rw [HR.out]; exact Cls.end _ s9))))
        clear hN f8 fq
        refine wpQuiet_nil ?_
        rintro ⟨w5, s5⟩
        dsimp only
        go_wp2_with fail
        go_meet
        case rel => exact ⟨by rw [← HFB.out] <;> rfl, s5⟩
      | false =>
        cases rb with
        | true =>
          try simp only [Act.put, List.setIfInBounds_toArray, List.set_cons_succ, List.set_cons_zero]
          have hN : Nonempty (Cls (fun w' => St W w' (RepA A r :: row V 0 EnV.zero.cells :: row B 0 [.string k] :: row D 0 [.int .i64 v] :: R))) := Cls.inh s4
          have f8 := fun s : Cls (fun w' => St W w' (RepA A r :: row V 0 EnV.zero.cells :: row B 0 [.string k] :: row D 0 [.int .i64 v] :: R)) => (repLd s.h).2.2.1
          have fq := fun s : Cls (fun w' => St W w' (RepA A r :: row V 0 EnV.zero.cells :: row B 0 [.string k] :: row D 0 [.int .i64 v] :: R)) => repQuota s.h
          refine wp_region_class (fun w' => St W w' (RepA A r :: row V 0 EnV.zero.cells :: row B 0 [.string k] :: row D 0 [.int .i64 v] :: R)) (by kernel_rfl) (by kernel_rfl) s4.drew ?_
          repeat (go_big_quiet_step ((rename_i s; first
            | (go_at_call 137; refine lenB_c HH.out.ownL (St.pick 3 (RepA.open.1 s.h)) ?_; exact Cls.end _ s.h)
            | (go_at_call 74; refine room_c HH.out s.h ?_; rintro w9 s9; rw [HR.out]; exact Cls.end _ s9))))
          clear hN f8 fq
          refine wpQuiet_nil ?_
          rintro ⟨w5, s5⟩
          dsimp only
          go_wp2_with fail
          go_meet
          case rel => exact ⟨by rw [← HFB.out] <;> rfl, s5⟩
        | false =>
          try simp only [Act.put, List.setIfInBounds_toArray, List.set_cons_succ, List.set_cons_zero]
          have hN : Nonempty (Cls (fun w' => St W w' (RepA A r :: row V 0 EnV.zero.cells :: row B 0 [.string k] :: row D 0 [.int .i64 v] :: R))) := Cls.inh s4
          have f8 := fun s : Cls (fun w' => St W w' (RepA A r :: row V 0 EnV.zero.cells :: row B 0 [.string k] :: row D 0 [.int .i64 v] :: R)) => (repLd s.h).2.2.1
          have fq := fun s : Cls (fun w' => St W w' (RepA A r :: row V 0 EnV.zero.cells :: row B 0 [.string k] :: row D 0 [.int .i64 v] :: R)) => repQuota s.h
          refine wp_region_class (fun w' => St W w' (RepA A r :: row V 0 EnV.zero.cells :: row B 0 [.string k] :: row D 0 [.int .i64 v] :: R)) (by kernel_rfl) (by kernel_rfl) s4.drew ?_
          repeat (go_big_quiet_step ((rename_i s; first
            | (go_at_call 137; refine lenB_c HH.out.ownL (St.pick 3 (RepA.open.1 s.h)) ?_; exact Cls.end _ s.h)
            | (go_at_call 74; refine room_c HH.out s.h ?_; rintro w9 s9; rw [HR.out]; exact Cls.end _ s9))))
          clear hN f8 fq
          refine wpQuiet_nil ?_
          rintro ⟨w5, s5⟩
          dsimp only
          go_wp2_with fail
          go_meet
          case rel => exact ⟨by rw [← HFB.out] <;> rfl, s5⟩
  case rest =>
  obtain ⟨rfl, s6⟩ := hcut
  clear HFB HO HR
  go_wp2_with (first
    | (refine wpl_build rfl rfl (v := .agg EnV.zero.cells.toArray) (by kernel_rfl) ?_)
    | (refine wpl_storeA (vs := EnV.zero.cells) rfl (.tmp 6) (.tmp 43) (by rfl) agg_en (by rfl) (by rfl) rfl (env_one _) (St.pick 1 s6) rfl ?_; rintro wz sz))
  have hL := run_loadA agg_en (vs := EnV.zero.cells) rfl sz.rowAll
  exact bodyPost_ret (v := .tuple #[.agg (EnV.zero.cells).toArray, .int .i64 7]) (by simp [results, Tryz.results82, asAddr, hL]) rfl (HK.out _ (sz.drop))

set_option maxRecDepth 100000 in
set_option maxHeartbeats 8000000 in
theorem dwrite_cnt {B D : Nat} {k : ByteArray} {v : Int} (h : RepOK r) (hfb : r.fullB k = false) (hc : 4294967295 ≤ r.cnt) (st : St W w (RepA A r :: row B 0 [.string k] :: row D 0 [.int .i64 v] :: R))
    (K : ∀ w', St W w' (RepA A r :: row B 0 [.string k] :: row D 0 [.int .i64 v] :: R) → post (.returned (.tuple #[.agg EnV.zero.cells.toArray, .int .i64 8])) w') :
    Calls Tryz.prog 82 #[.pointer (some ⟨A.p, 0, none⟩), .string k, .func (.func 86) #[] #[.pointer (some ⟨B, 0, none⟩), .pointer (some ⟨D, 0, none⟩)]] w post := by
  have HK := hid K; clear K
  have HH := hid h
  obtain ⟨o, ho⟩ : ∃ o, bhas r.own k = o := ⟨_, rfl⟩
  obtain ⟨q0, hq0⟩ : ∃ q0, decide (r.quota ≤ (r.own.length : Int)) = q0 := ⟨_, rfl⟩
  obtain ⟨rb, hrb⟩ : ∃ rb, r.roomB k = rb := ⟨_, rfl⟩
  have hfb2 : ((!o && q0) || !rb) = false := by rw [← hfb, ← ho, ← hq0, ← hrb]; rfl
  have HFB := hid hfb2
  have HO := hid ho; have HR := hid hrb
  clear ho hrb hfb hfb2
  have HC := hid hc
  clear hc
  clear h
  go_enter Tryz.func82, Tryz.ntmps82
  go_upto_region 2 with (first
    | (refine wpl_allocA rfl rfl zero_en st ?_; rintro V w1 s1; have s2 : St W w1 (RepA A r :: row V 0 EnV.zero.cells :: row B 0 [.string k] :: row D 0 [.int .i64 v] :: R) := St.pick 1 s1; have l8 := (repLd s2).2.2.1)
    | (go_at_call 136; refine getB_c HH.out.own HH.out.ownL HH.out.ownT (St.pick 3 (RepA.open.1 s2)) ?_; rintro w3 s3; rw [HO.out]; have s4 : St W w3 (RepA A r :: row V 0 EnV.zero.cells :: row B 0 [.string k] :: row D 0 [.int .i64 v] :: R) := RepA.open.2 (s3.perm [1, 1, 1])))
  go_cut [42] (fun x wx => x = .bool false ∧ St W wx (RepA A r :: row V 0 EnV.zero.cells :: row B 0 [.string k] :: row D 0 [.int .i64 v] :: R))
  case first =>
    cases o with
    | true =>
      cases rb with
      | true =>
        try simp only [Act.put, List.setIfInBounds_toArray, List.set_cons_succ, List.set_cons_zero]
        have hN : Nonempty (Cls (fun w' => St W w' (RepA A r :: row V 0 EnV.zero.cells :: row B 0 [.string k] :: row D 0 [.int .i64 v] :: R))) := Cls.inh s4
        have f8 := fun s : Cls (fun w' => St W w' (RepA A r :: row V 0 EnV.zero.cells :: row B 0 [.string k] :: row D 0 [.int .i64 v] :: R)) => (repLd s.h).2.2.1
        have fq := fun s : Cls (fun w' => St W w' (RepA A r :: row V 0 EnV.zero.cells :: row B 0 [.string k] :: row D 0 [.int .i64 v] :: R)) => repQuota s.h
        refine wp_region_class (fun w' => St W w' (RepA A r :: row V 0 EnV.zero.cells :: row B 0 [.string k] :: row D 0 [.int .i64 v] :: R)) (by kernel_rfl) (by kernel_rfl) s4.drew ?_
        repeat (go_big_quiet_step ((rename_i s; first
          | (go_at_call 137; refine lenB_c HH.out.ownL (St.pick 3 (RepA.open.1 s.h)) ?_; exact Cls.end _ s.h)
          | (go_at_call 74; refine room_c HH.out s.h ?_; rintro w9 s9; rw [HR.out]; exact Cls.end _ s9))))
        clear hN f8 fq
        refine wpQuiet_nil ?_
        rintro ⟨w5, s5⟩
        dsimp only
        go_wp2_with fail
        go_meet
        case rel => exact ⟨by rw [← HFB.out] <;> rfl, s5⟩
      | false =>
        try simp only [Act.put, List.setIfInBounds_toArray, List.set_cons_succ, List.set_cons_zero]
        have hN : Nonempty (Cls (fun w' => St W w' (RepA A r :: row V 0 EnV.zero.cells :: row B 0 [.string k] :: row D 0 [.int .i64 v] :: R))) := Cls.inh s4
        have f8 := fun s : Cls (fun w' => St W w' (RepA A r :: row V 0 EnV.zero.cells :: row B 0 [.string k] :: row D 0 [.int .i64 v] :: R)) => (repLd s.h).2.2.1
        have fq := fun s : Cls (fun w' => St W w' (RepA A r :: row V 0 EnV.zero.cells :: row B 0 [.string k] :: row D 0 [.int .i64 v] :: R)) => repQuota s.h
        refine wp_region_class (fun w' => St W w' (RepA A r :: row V 0 EnV.zero.cells :: row B 0 [.string k] :: row D 0 [.int .i64 v] :: R)) (by kernel_rfl) (by kernel_rfl) s4.drew ?_
        repeat (go_big_quiet_step ((rename_i s; first
          | (go_at_call 137; refine lenB_c HH.out.ownL (St.pick 3 (RepA.open.1 s.h)) ?_; exact Cls.end _ s.h)
          | (go_at_call 74; refine room_c HH.out s.h ?_; rintro w9 s9; rw [HR.out]; exact Cls.end _ s9))))
        clear hN f8 fq
        refine wpQuiet_nil ?_
        rintro ⟨w5, s5⟩
        dsimp only
        go_wp2_with fail
        go_meet
        case rel => exact ⟨by rw [← HFB.out] <;> rfl, s5⟩
    | false =>
      cases q0 with
      | true =>
        try simp only [Act.put, List.setIfInBounds_toArray, List.set_cons_succ, List.set_cons_zero]
        have hN : Nonempty (Cls (fun w' => St W w' (RepA A r :: row V 0 EnV.zero.cells :: row B 0 [.string k] :: row D 0 [.int .i64 v] :: R))) := Cls.inh s4
        have f8 := fun s : Cls (fun w' => St W w' (RepA A r :: row V 0 EnV.zero.cells :: row B 0 [.string k] :: row D 0 [.int .i64 v] :: R)) => (repLd s.h).2.2.1
        have fq := fun s : Cls (fun w' => St W w' (RepA A r :: row V 0 EnV.zero.cells :: row B 0 [.string k] :: row D 0 [.int .i64 v] :: R)) => repQuota s.h
        refine wp_region_class (fun w' => St W w' (RepA A r :: row V 0 EnV.zero.cells :: row B 0 [.string k] :: row D 0 [.int .i64 v] :: R)) (by kernel_rfl) (by kernel_rfl) s4.drew ?_
        repeat (go_big_quiet_step ((rename_i s; first
          | (go_at_call 137; refine lenB_c HH.out.ownL (St.pick 3 (RepA.open.1 s.h)) ?_; exact Cls.end _ s.h)
          | (go_at_call 74; refine room_c HH.out s.h ?_; rintro w9 s9; rw [HR.out]; exact Cls.end _ s9))))
        clear hN f8 fq
        refine wpQuiet_nil ?_
        rintro ⟨w5, s5⟩
        dsimp only
        go_wp2_with fail
        go_meet
        case rel => exact ⟨by rw [← HFB.out] <;> rfl, s5⟩
      | false =>
        cases rb with
        | true =>
          try simp only [Act.put, List.setIfInBounds_toArray, List.set_cons_succ, List.set_cons_zero]
          have hN : Nonempty (Cls (fun w' => St W w' (RepA A r :: row V 0 EnV.zero.cells :: row B 0 [.string k] :: row D 0 [.int .i64 v] :: R))) := Cls.inh s4
          have f8 := fun s : Cls (fun w' => St W w' (RepA A r :: row V 0 EnV.zero.cells :: row B 0 [.string k] :: row D 0 [.int .i64 v] :: R)) => (repLd s.h).2.2.1
          have fq := fun s : Cls (fun w' => St W w' (RepA A r :: row V 0 EnV.zero.cells :: row B 0 [.string k] :: row D 0 [.int .i64 v] :: R)) => repQuota s.h
          refine wp_region_class (fun w' => St W w' (RepA A r :: row V 0 EnV.zero.cells :: row B 0 [.string k] :: row D 0 [.int .i64 v] :: R)) (by kernel_rfl) (by kernel_rfl) s4.drew ?_
          repeat (go_big_quiet_step ((rename_i s; first
            | (go_at_call 137; refine lenB_c HH.out.ownL (St.pick 3 (RepA.open.1 s.h)) ?_; exact Cls.end _ s.h)
            | (go_at_call 74; refine room_c HH.out s.h ?_; rintro w9 s9; rw [HR.out]; exact Cls.end _ s9))))
          clear hN f8 fq
          refine wpQuiet_nil ?_
          rintro ⟨w5, s5⟩
          dsimp only
          go_wp2_with fail
          go_meet
          case rel => exact ⟨by rw [← HFB.out] <;> rfl, s5⟩
        | false =>
          try simp only [Act.put, List.setIfInBounds_toArray, List.set_cons_succ, List.set_cons_zero]
          have hN : Nonempty (Cls (fun w' => St W w' (RepA A r :: row V 0 EnV.zero.cells :: row B 0 [.string k] :: row D 0 [.int .i64 v] :: R))) := Cls.inh s4
          have f8 := fun s : Cls (fun w' => St W w' (RepA A r :: row V 0 EnV.zero.cells :: row B 0 [.string k] :: row D 0 [.int .i64 v] :: R)) => (repLd s.h).2.2.1
          have fq := fun s : Cls (fun w' => St W w' (RepA A r :: row V 0 EnV.zero.cells :: row B 0 [.string k] :: row D 0 [.int .i64 v] :: R)) => repQuota s.h
          refine wp_region_class (fun w' => St W w' (RepA A r :: row V 0 EnV.zero.cells :: row B 0 [.string k] :: row D 0 [.int .i64 v] :: R)) (by kernel_rfl) (by kernel_rfl) s4.drew ?_
          repeat (go_big_quiet_step ((rename_i s; first
            | (go_at_call 137; refine lenB_c HH.out.ownL (St.pick 3 (RepA.open.1 s.h)) ?_; exact Cls.end _ s.h)
            | (go_at_call 74; refine room_c HH.out s.h ?_; rintro w9 s9; rw [HR.out]; exact Cls.end _ s9))))
          clear hN f8 fq
          refine wpQuiet_nil ?_
          rintro ⟨w5, s5⟩
          dsimp only
          go_wp2_with fail
          go_meet
          case rel => exact ⟨by rw [← HFB.out] <;> rfl, s5⟩
  case rest =>
  obtain ⟨rfl, s6⟩ := hcut
  clear HFB HO HR
  have l5 := (repLd s6).1
  go_wp2_with (first
    | (go_at_call 130; refine next_no HC.out (St.pick 1 (RepA.open.1 s6)) ?_; rintro w7 s7; have s8 : St W w7 (RepA A r :: row V 0 EnV.zero.cells :: row B 0 [.string k] :: row D 0 [.int .i64 v] :: R) := RepA.open.2 (s7.perm [1]))
    | (refine wpl_allocA rfl rfl zero_st s8 ?_; rintro N w9 s9)
    | (refine wpl_storeA (vs := [.int .i64 0, .int .i64 0]) rfl (.tmp 10) (.tmp 50) (by rfl) agg_st (by rfl) (by rfl) rfl (st_one _ _) s9 rfl ?_; rintro wa sa)
    | (refine wpl_build rfl rfl (v := .agg EnV.zero.cells.toArray) (by kernel_rfl) ?_)
    | (refine wpl_storeA (vs := EnV.zero.cells) rfl (.tmp 6) (.tmp 54) (by rfl) agg_en (by rfl) (by rfl) rfl (env_one _) (St.pick 2 sa) rfl ?_; rintro wz sz))
  have hL := run_loadA agg_en (vs := EnV.zero.cells) rfl sz.rowAll
  exact bodyPost_ret (v := .tuple #[.agg (EnV.zero.cells).toArray, .int .i64 8]) (by simp [results, Tryz.results82, asAddr, hL]) rfl (HK.out _ (sz.dropN 2))

set_option maxRecDepth 100000 in
set_option maxHeartbeats 8000000 in
theorem dwrite_bad {B D : Nat} {k : ByteArray} {v : Int} (h : RepOK r) (hfb : r.fullB k = false) (hn : r.cnt < 4294967295) (hw : ¬ checkE (delE k v (r.cnt + 1) r.site) = 0) (st : St W w (RepA A r :: row B 0 [.string k] :: row D 0 [.int .i64 v] :: R))
    (K : ∀ w', St W w' (RepA A { r with cnt := r.cnt + 1 } :: row B 0 [.string k] :: row D 0 [.int .i64 v] :: R) → post (.returned (.tuple #[.agg EnV.zero.cells.toArray, .int .i64 (checkE (delE k v (r.cnt + 1) r.site))])) w') :
    Calls Tryz.prog 82 #[.pointer (some ⟨A.p, 0, none⟩), .string k, .func (.func 86) #[] #[.pointer (some ⟨B, 0, none⟩), .pointer (some ⟨D, 0, none⟩)]] w post := by
  have HK := hid K; clear K
  have HH := hid h
  obtain ⟨o, ho⟩ : ∃ o, bhas r.own k = o := ⟨_, rfl⟩
  obtain ⟨q0, hq0⟩ : ∃ q0, decide (r.quota ≤ (r.own.length : Int)) = q0 := ⟨_, rfl⟩
  obtain ⟨rb, hrb⟩ : ∃ rb, r.roomB k = rb := ⟨_, rfl⟩
  have hfb2 : ((!o && q0) || !rb) = false := by rw [← hfb, ← ho, ← hq0, ← hrb]; rfl
  have HFB := hid hfb2
  have HO := hid ho; have HR := hid hrb
  clear ho hrb hfb hfb2
  have HN : Hid (r.cnt < 4294967295) := hid hn
  have HN0 : Hid (0 ≤ r.cnt) := hid h.cnt
  obtain ⟨q, hq⟩ : ∃ q : RepV, q = { r with cnt := r.cnt + 1 } := ⟨_, rfl⟩
  have hqo : RepOK q := by rw [hq]; exact h.withC (by have := h.cnt; omega)
  have HQ := hid hq
  have HQO := hid hqo
  obtain ⟨n, hnn⟩ : ∃ n, r.cnt + 1 = n := ⟨_, rfl⟩
  have HNN := hid hnn
  rw [hnn] at hw
  obtain ⟨c, hcc⟩ : ∃ c, checkE (delE k v n r.site) = c := ⟨_, rfl⟩
  have HX := hid hcc
  obtain ⟨f, hff⟩ : ∃ f, (if checkE (delE k v n r.site) = 0 then delE k v n r.site else EnV.zero) = f := ⟨_, rfl⟩
  have HF := hid hff
  have h1 : (c == 0) = false := by rw [← hcc]; simp [hw]
  have h2 : (c != 0) = true := by rw [← hcc]; simp [hw]
  have HK2 : Hid (∀ w', St W w' (RepA A q :: row B 0 [.string k] :: row D 0 [.int .i64 v] :: R) → post (.returned (.tuple #[.agg EnV.zero.cells.toArray, .int .i64 c])) w') := hid (by rw [hq, ← hcc, ← hnn]; exact HK.out)
  clear hq hqo hnn hn hcc hff hw HK
  clear h
  go_enter Tryz.func82, Tryz.ntmps82
  go_upto_region 2 with (first
    | (refine wpl_allocA rfl rfl zero_en st ?_; rintro V w1 s1; have s2 : St W w1 (RepA A r :: row V 0 EnV.zero.cells :: row B 0 [.string k] :: row D 0 [.int .i64 v] :: R) := St.pick 1 s1; have l8 := (repLd s2).2.2.1)
    | (go_at_call 136; refine getB_c HH.out.own HH.out.ownL HH.out.ownT (St.pick 3 (RepA.open.1 s2)) ?_; rintro w3 s3; rw [HO.out]; have s4 : St W w3 (RepA A r :: row V 0 EnV.zero.cells :: row B 0 [.string k] :: row D 0 [.int .i64 v] :: R) := RepA.open.2 (s3.perm [1, 1, 1])))
  go_cut [42] (fun x wx => x = .bool false ∧ St W wx (RepA A r :: row V 0 EnV.zero.cells :: row B 0 [.string k] :: row D 0 [.int .i64 v] :: R))
  case first =>
    cases o with
    | true =>
      cases rb with
      | true =>
        try simp only [Act.put, List.setIfInBounds_toArray, List.set_cons_succ, List.set_cons_zero]
        have hN : Nonempty (Cls (fun w' => St W w' (RepA A r :: row V 0 EnV.zero.cells :: row B 0 [.string k] :: row D 0 [.int .i64 v] :: R))) := Cls.inh s4
        have f8 := fun s : Cls (fun w' => St W w' (RepA A r :: row V 0 EnV.zero.cells :: row B 0 [.string k] :: row D 0 [.int .i64 v] :: R)) => (repLd s.h).2.2.1
        have fq := fun s : Cls (fun w' => St W w' (RepA A r :: row V 0 EnV.zero.cells :: row B 0 [.string k] :: row D 0 [.int .i64 v] :: R)) => repQuota s.h
        refine wp_region_class (fun w' => St W w' (RepA A r :: row V 0 EnV.zero.cells :: row B 0 [.string k] :: row D 0 [.int .i64 v] :: R)) (by kernel_rfl) (by kernel_rfl) s4.drew ?_
        repeat (go_big_quiet_step ((rename_i s; first
          | (go_at_call 137; refine lenB_c HH.out.ownL (St.pick 3 (RepA.open.1 s.h)) ?_; exact Cls.end _ s.h)
          | (go_at_call 74; refine room_c HH.out s.h ?_; rintro w9 s9; rw [HR.out]; exact Cls.end _ s9))))
        clear hN f8 fq
        refine wpQuiet_nil ?_
        rintro ⟨w5, s5⟩
        dsimp only
        go_wp2_with fail
        go_meet
        case rel => exact ⟨by rw [← HFB.out] <;> rfl, s5⟩
      | false =>
        try simp only [Act.put, List.setIfInBounds_toArray, List.set_cons_succ, List.set_cons_zero]
        have hN : Nonempty (Cls (fun w' => St W w' (RepA A r :: row V 0 EnV.zero.cells :: row B 0 [.string k] :: row D 0 [.int .i64 v] :: R))) := Cls.inh s4
        have f8 := fun s : Cls (fun w' => St W w' (RepA A r :: row V 0 EnV.zero.cells :: row B 0 [.string k] :: row D 0 [.int .i64 v] :: R)) => (repLd s.h).2.2.1
        have fq := fun s : Cls (fun w' => St W w' (RepA A r :: row V 0 EnV.zero.cells :: row B 0 [.string k] :: row D 0 [.int .i64 v] :: R)) => repQuota s.h
        refine wp_region_class (fun w' => St W w' (RepA A r :: row V 0 EnV.zero.cells :: row B 0 [.string k] :: row D 0 [.int .i64 v] :: R)) (by kernel_rfl) (by kernel_rfl) s4.drew ?_
        repeat (go_big_quiet_step ((rename_i s; first
          | (go_at_call 137; refine lenB_c HH.out.ownL (St.pick 3 (RepA.open.1 s.h)) ?_; exact Cls.end _ s.h)
          | (go_at_call 74; refine room_c HH.out s.h ?_; rintro w9 s9; rw [HR.out]; exact Cls.end _ s9))))
        clear hN f8 fq
        refine wpQuiet_nil ?_
        rintro ⟨w5, s5⟩
        dsimp only
        go_wp2_with fail
        go_meet
        case rel => exact ⟨by rw [← HFB.out] <;> rfl, s5⟩
    | false =>
      cases q0 with
      | true =>
        try simp only [Act.put, List.setIfInBounds_toArray, List.set_cons_succ, List.set_cons_zero]
        have hN : Nonempty (Cls (fun w' => St W w' (RepA A r :: row V 0 EnV.zero.cells :: row B 0 [.string k] :: row D 0 [.int .i64 v] :: R))) := Cls.inh s4
        have f8 := fun s : Cls (fun w' => St W w' (RepA A r :: row V 0 EnV.zero.cells :: row B 0 [.string k] :: row D 0 [.int .i64 v] :: R)) => (repLd s.h).2.2.1
        have fq := fun s : Cls (fun w' => St W w' (RepA A r :: row V 0 EnV.zero.cells :: row B 0 [.string k] :: row D 0 [.int .i64 v] :: R)) => repQuota s.h
        refine wp_region_class (fun w' => St W w' (RepA A r :: row V 0 EnV.zero.cells :: row B 0 [.string k] :: row D 0 [.int .i64 v] :: R)) (by kernel_rfl) (by kernel_rfl) s4.drew ?_
        repeat (go_big_quiet_step ((rename_i s; first
          | (go_at_call 137; refine lenB_c HH.out.ownL (St.pick 3 (RepA.open.1 s.h)) ?_; exact Cls.end _ s.h)
          | (go_at_call 74; refine room_c HH.out s.h ?_; rintro w9 s9; rw [HR.out]; exact Cls.end _ s9))))
        clear hN f8 fq
        refine wpQuiet_nil ?_
        rintro ⟨w5, s5⟩
        dsimp only
        go_wp2_with fail
        go_meet
        case rel => exact ⟨by rw [← HFB.out] <;> rfl, s5⟩
      | false =>
        cases rb with
        | true =>
          try simp only [Act.put, List.setIfInBounds_toArray, List.set_cons_succ, List.set_cons_zero]
          have hN : Nonempty (Cls (fun w' => St W w' (RepA A r :: row V 0 EnV.zero.cells :: row B 0 [.string k] :: row D 0 [.int .i64 v] :: R))) := Cls.inh s4
          have f8 := fun s : Cls (fun w' => St W w' (RepA A r :: row V 0 EnV.zero.cells :: row B 0 [.string k] :: row D 0 [.int .i64 v] :: R)) => (repLd s.h).2.2.1
          have fq := fun s : Cls (fun w' => St W w' (RepA A r :: row V 0 EnV.zero.cells :: row B 0 [.string k] :: row D 0 [.int .i64 v] :: R)) => repQuota s.h
          refine wp_region_class (fun w' => St W w' (RepA A r :: row V 0 EnV.zero.cells :: row B 0 [.string k] :: row D 0 [.int .i64 v] :: R)) (by kernel_rfl) (by kernel_rfl) s4.drew ?_
          repeat (go_big_quiet_step ((rename_i s; first
            | (go_at_call 137; refine lenB_c HH.out.ownL (St.pick 3 (RepA.open.1 s.h)) ?_; exact Cls.end _ s.h)
            | (go_at_call 74; refine room_c HH.out s.h ?_; rintro w9 s9; rw [HR.out]; exact Cls.end _ s9))))
          clear hN f8 fq
          refine wpQuiet_nil ?_
          rintro ⟨w5, s5⟩
          dsimp only
          go_wp2_with fail
          go_meet
          case rel => exact ⟨by rw [← HFB.out] <;> rfl, s5⟩
        | false =>
          try simp only [Act.put, List.setIfInBounds_toArray, List.set_cons_succ, List.set_cons_zero]
          have hN : Nonempty (Cls (fun w' => St W w' (RepA A r :: row V 0 EnV.zero.cells :: row B 0 [.string k] :: row D 0 [.int .i64 v] :: R))) := Cls.inh s4
          have f8 := fun s : Cls (fun w' => St W w' (RepA A r :: row V 0 EnV.zero.cells :: row B 0 [.string k] :: row D 0 [.int .i64 v] :: R)) => (repLd s.h).2.2.1
          have fq := fun s : Cls (fun w' => St W w' (RepA A r :: row V 0 EnV.zero.cells :: row B 0 [.string k] :: row D 0 [.int .i64 v] :: R)) => repQuota s.h
          refine wp_region_class (fun w' => St W w' (RepA A r :: row V 0 EnV.zero.cells :: row B 0 [.string k] :: row D 0 [.int .i64 v] :: R)) (by kernel_rfl) (by kernel_rfl) s4.drew ?_
          repeat (go_big_quiet_step ((rename_i s; first
            | (go_at_call 137; refine lenB_c HH.out.ownL (St.pick 3 (RepA.open.1 s.h)) ?_; exact Cls.end _ s.h)
            | (go_at_call 74; refine room_c HH.out s.h ?_; rintro w9 s9; rw [HR.out]; exact Cls.end _ s9))))
          clear hN f8 fq
          refine wpQuiet_nil ?_
          rintro ⟨w5, s5⟩
          dsimp only
          go_wp2_with fail
          go_meet
          case rel => exact ⟨by rw [← HFB.out] <;> rfl, s5⟩
  case rest =>
  obtain ⟨rfl, s6⟩ := hcut
  clear HFB HO HR
  have l5 := (repLd s6).1
  go_wp2_with (first
    | (go_at_call 130; refine next_c HN.out HN0.out (St.pick 1 (RepA.open.1 s6)) ?_; rintro w7 s7; rw [HNN.out]; have s8 : St W w7 (RepA A q :: row V 0 EnV.zero.cells :: row B 0 [.string k] :: row D 0 [.int .i64 v] :: R) := (by rw [HQ.out]; exact RepA.open.2 (s7.perm [1])))
    | (refine wpl_allocA rfl rfl zero_st s8 ?_; rintro N w9 s9)
    | (refine wpl_storeA (vs := [.int .i64 n, .int .i64 r.site]) rfl (.tmp 10) (.tmp 50) (by rfl) agg_st (by rfl) (by rfl) rfl (st_one _ _) s9 rfl ?_; rintro wa sa; have lN := run_loadG agg_st (vs := [.int .i64 n, .int .i64 r.site]) rfl sa.rowAll)
    | (go_at_call 86; refine del1_c (sa.perm [3, 3]) ?_; rintro wb sb; rw [HF.out, HX.out])
    | (refine wpl_allocA rfl rfl zero_en sb ?_; rintro M wc sc)
    | (refine wpl_storeA (vs := f.cells) rfl (.tmp 12) (.tmp 60) (by rfl) agg_en (by rfl) (by rfl) rfl (env_one _) sc rfl ?_; rintro wd sd; have lM := run_loadG agg_en (vs := f.cells) rfl sd.rowAll; have s1d : St W wd (RepA A q :: row M 0 f.cells :: row B 0 [.string k] :: row D 0 [.int .i64 v] :: row N 0 [.int .i64 n, .int .i64 r.site] :: row V 0 EnV.zero.cells :: R) := St.pick 4 sd)
    | (refine wpl_build rfl rfl (v := .agg EnV.zero.cells.toArray) (by kernel_rfl) ?_)
    | (refine wpl_storeA (vs := EnV.zero.cells) rfl (.tmp 6) (.tmp 69) (by rfl) agg_en (by rfl) (by rfl) rfl (env_one _) (St.pick 5 s1d) rfl ?_; rintro wz sz))
  have hL := run_loadA agg_en (vs := EnV.zero.cells) rfl sz.rowAll
  exact bodyPost_ret (v := .tuple #[.agg (EnV.zero.cells).toArray, .int .i64 c]) (by simp [results, Tryz.results82, asAddr, hL]) rfl (HK2.out _ ((sz.perm [0, 1, 3]).dropN 3))

set_option maxRecDepth 100000 in
set_option maxHeartbeats 8000000 in
theorem dwrite_set {B D : Nat} {k : ByteArray} {v : Int} (h : RepOK r) (hfb : r.fullB k = false) (hn : r.cnt < 4294967295) (hw : checkE (delE k v (r.cnt + 1) r.site) = 0) (hs : ¬ { r with cnt := r.cnt + 1 }.setW (delE k v (r.cnt + 1) r.site) = 0) (st : St W w (RepA A r :: row B 0 [.string k] :: row D 0 [.int .i64 v] :: R))
    (K : ∀ w', St W w' (RepA A ({ r with cnt := r.cnt + 1 }.set (delE k v (r.cnt + 1) r.site)) :: row B 0 [.string k] :: row D 0 [.int .i64 v] :: R) → post (.returned (.tuple #[.agg EnV.zero.cells.toArray, .int .i64 ({ r with cnt := r.cnt + 1 }.setW (delE k v (r.cnt + 1) r.site))])) w') :
    Calls Tryz.prog 82 #[.pointer (some ⟨A.p, 0, none⟩), .string k, .func (.func 86) #[] #[.pointer (some ⟨B, 0, none⟩), .pointer (some ⟨D, 0, none⟩)]] w post := by
  have HK := hid K; clear K
  have HH := hid h
  obtain ⟨o, ho⟩ : ∃ o, bhas r.own k = o := ⟨_, rfl⟩
  obtain ⟨q0, hq0⟩ : ∃ q0, decide (r.quota ≤ (r.own.length : Int)) = q0 := ⟨_, rfl⟩
  obtain ⟨rb, hrb⟩ : ∃ rb, r.roomB k = rb := ⟨_, rfl⟩
  have hfb2 : ((!o && q0) || !rb) = false := by rw [← hfb, ← ho, ← hq0, ← hrb]; rfl
  have HFB := hid hfb2
  have HO := hid ho; have HR := hid hrb
  clear ho hrb hfb hfb2
  have HN : Hid (r.cnt < 4294967295) := hid hn
  have HN0 : Hid (0 ≤ r.cnt) := hid h.cnt
  obtain ⟨q, hq⟩ : ∃ q : RepV, q = { r with cnt := r.cnt + 1 } := ⟨_, rfl⟩
  have hqo : RepOK q := by rw [hq]; exact h.withC (by have := h.cnt; omega)
  have HQ := hid hq
  have HQO := hid hqo
  obtain ⟨n, hnn⟩ : ∃ n, r.cnt + 1 = n := ⟨_, rfl⟩
  have HNN := hid hnn
  rw [hnn] at hw
  have HX := hid hw
  obtain ⟨f, hff⟩ : ∃ f, delE k v n r.site = f := ⟨_, rfl⟩
  have HF : Hid ((if checkE (delE k v n r.site) = 0 then delE k v n r.site else EnV.zero) = f) := hid (by rw [if_pos hw]; exact hff)
  obtain ⟨z, hz⟩ : ∃ z, q.setW f = z := ⟨_, rfl⟩
  have HZ := hid hz
  rw [← hq, hnn, hff, hz] at hs
  have h2 : (z != 0) = true := by simp [hs]
  have HK2 : Hid (∀ w', St W w' (RepA A (q.set f) :: row B 0 [.string k] :: row D 0 [.int .i64 v] :: R) → post (.returned (.tuple #[.agg EnV.zero.cells.toArray, .int .i64 z])) w') := hid (by rw [← hz, ← hff, ← hnn]; have := HK.out; rw [← hq] at this; exact this)
  clear hq hqo hnn hn hff hw hz hs HK
  clear h
  go_enter Tryz.func82, Tryz.ntmps82
  go_upto_region 2 with (first
    | (refine wpl_allocA rfl rfl zero_en st ?_; rintro V w1 s1; have s2 : St W w1 (RepA A r :: row V 0 EnV.zero.cells :: row B 0 [.string k] :: row D 0 [.int .i64 v] :: R) := St.pick 1 s1; have l8 := (repLd s2).2.2.1)
    | (go_at_call 136; refine getB_c HH.out.own HH.out.ownL HH.out.ownT (St.pick 3 (RepA.open.1 s2)) ?_; rintro w3 s3; rw [HO.out]; have s4 : St W w3 (RepA A r :: row V 0 EnV.zero.cells :: row B 0 [.string k] :: row D 0 [.int .i64 v] :: R) := RepA.open.2 (s3.perm [1, 1, 1])))
  go_cut [42] (fun x wx => x = .bool false ∧ St W wx (RepA A r :: row V 0 EnV.zero.cells :: row B 0 [.string k] :: row D 0 [.int .i64 v] :: R))
  case first =>
    cases o with
    | true =>
      cases rb with
      | true =>
        try simp only [Act.put, List.setIfInBounds_toArray, List.set_cons_succ, List.set_cons_zero]
        have hN : Nonempty (Cls (fun w' => St W w' (RepA A r :: row V 0 EnV.zero.cells :: row B 0 [.string k] :: row D 0 [.int .i64 v] :: R))) := Cls.inh s4
        have f8 := fun s : Cls (fun w' => St W w' (RepA A r :: row V 0 EnV.zero.cells :: row B 0 [.string k] :: row D 0 [.int .i64 v] :: R)) => (repLd s.h).2.2.1
        have fq := fun s : Cls (fun w' => St W w' (RepA A r :: row V 0 EnV.zero.cells :: row B 0 [.string k] :: row D 0 [.int .i64 v] :: R)) => repQuota s.h
        refine wp_region_class (fun w' => St W w' (RepA A r :: row V 0 EnV.zero.cells :: row B 0 [.string k] :: row D 0 [.int .i64 v] :: R)) (by kernel_rfl) (by kernel_rfl) s4.drew ?_
        repeat (go_big_quiet_step ((rename_i s; first
          | (go_at_call 137; refine lenB_c HH.out.ownL (St.pick 3 (RepA.open.1 s.h)) ?_; exact Cls.end _ s.h)
          | (go_at_call 74; refine room_c HH.out s.h ?_; rintro w9 s9; rw [HR.out]; exact Cls.end _ s9))))
        clear hN f8 fq
        refine wpQuiet_nil ?_
        rintro ⟨w5, s5⟩
        dsimp only
        go_wp2_with fail
        go_meet
        case rel => exact ⟨by rw [← HFB.out] <;> rfl, s5⟩
      | false =>
        try simp only [Act.put, List.setIfInBounds_toArray, List.set_cons_succ, List.set_cons_zero]
        have hN : Nonempty (Cls (fun w' => St W w' (RepA A r :: row V 0 EnV.zero.cells :: row B 0 [.string k] :: row D 0 [.int .i64 v] :: R))) := Cls.inh s4
        have f8 := fun s : Cls (fun w' => St W w' (RepA A r :: row V 0 EnV.zero.cells :: row B 0 [.string k] :: row D 0 [.int .i64 v] :: R)) => (repLd s.h).2.2.1
        have fq := fun s : Cls (fun w' => St W w' (RepA A r :: row V 0 EnV.zero.cells :: row B 0 [.string k] :: row D 0 [.int .i64 v] :: R)) => repQuota s.h
        refine wp_region_class (fun w' => St W w' (RepA A r :: row V 0 EnV.zero.cells :: row B 0 [.string k] :: row D 0 [.int .i64 v] :: R)) (by kernel_rfl) (by kernel_rfl) s4.drew ?_
        repeat (go_big_quiet_step ((rename_i s; first
          | (go_at_call 137; refine lenB_c HH.out.ownL (St.pick 3 (RepA.open.1 s.h)) ?_; exact Cls.end _ s.h)
          | (go_at_call 74; refine room_c HH.out s.h ?_; rintro w9 s9; rw [HR.out]; exact Cls.end _ s9))))
        clear hN f8 fq
        refine wpQuiet_nil ?_
        rintro ⟨w5, s5⟩
        dsimp only
        go_wp2_with fail
        go_meet
        case rel => exact ⟨by rw [← HFB.out] <;> rfl, s5⟩
    | false =>
      cases q0 with
      | true =>
        try simp only [Act.put, List.setIfInBounds_toArray, List.set_cons_succ, List.set_cons_zero]
        have hN : Nonempty (Cls (fun w' => St W w' (RepA A r :: row V 0 EnV.zero.cells :: row B 0 [.string k] :: row D 0 [.int .i64 v] :: R))) := Cls.inh s4
        have f8 := fun s : Cls (fun w' => St W w' (RepA A r :: row V 0 EnV.zero.cells :: row B 0 [.string k] :: row D 0 [.int .i64 v] :: R)) => (repLd s.h).2.2.1
        have fq := fun s : Cls (fun w' => St W w' (RepA A r :: row V 0 EnV.zero.cells :: row B 0 [.string k] :: row D 0 [.int .i64 v] :: R)) => repQuota s.h
        refine wp_region_class (fun w' => St W w' (RepA A r :: row V 0 EnV.zero.cells :: row B 0 [.string k] :: row D 0 [.int .i64 v] :: R)) (by kernel_rfl) (by kernel_rfl) s4.drew ?_
        repeat (go_big_quiet_step ((rename_i s; first
          | (go_at_call 137; refine lenB_c HH.out.ownL (St.pick 3 (RepA.open.1 s.h)) ?_; exact Cls.end _ s.h)
          | (go_at_call 74; refine room_c HH.out s.h ?_; rintro w9 s9; rw [HR.out]; exact Cls.end _ s9))))
        clear hN f8 fq
        refine wpQuiet_nil ?_
        rintro ⟨w5, s5⟩
        dsimp only
        go_wp2_with fail
        go_meet
        case rel => exact ⟨by rw [← HFB.out] <;> rfl, s5⟩
      | false =>
        cases rb with
        | true =>
          try simp only [Act.put, List.setIfInBounds_toArray, List.set_cons_succ, List.set_cons_zero]
          have hN : Nonempty (Cls (fun w' => St W w' (RepA A r :: row V 0 EnV.zero.cells :: row B 0 [.string k] :: row D 0 [.int .i64 v] :: R))) := Cls.inh s4
          have f8 := fun s : Cls (fun w' => St W w' (RepA A r :: row V 0 EnV.zero.cells :: row B 0 [.string k] :: row D 0 [.int .i64 v] :: R)) => (repLd s.h).2.2.1
          have fq := fun s : Cls (fun w' => St W w' (RepA A r :: row V 0 EnV.zero.cells :: row B 0 [.string k] :: row D 0 [.int .i64 v] :: R)) => repQuota s.h
          refine wp_region_class (fun w' => St W w' (RepA A r :: row V 0 EnV.zero.cells :: row B 0 [.string k] :: row D 0 [.int .i64 v] :: R)) (by kernel_rfl) (by kernel_rfl) s4.drew ?_
          repeat (go_big_quiet_step ((rename_i s; first
            | (go_at_call 137; refine lenB_c HH.out.ownL (St.pick 3 (RepA.open.1 s.h)) ?_; exact Cls.end _ s.h)
            | (go_at_call 74; refine room_c HH.out s.h ?_; rintro w9 s9; rw [HR.out]; exact Cls.end _ s9))))
          clear hN f8 fq
          refine wpQuiet_nil ?_
          rintro ⟨w5, s5⟩
          dsimp only
          go_wp2_with fail
          go_meet
          case rel => exact ⟨by rw [← HFB.out] <;> rfl, s5⟩
        | false =>
          try simp only [Act.put, List.setIfInBounds_toArray, List.set_cons_succ, List.set_cons_zero]
          have hN : Nonempty (Cls (fun w' => St W w' (RepA A r :: row V 0 EnV.zero.cells :: row B 0 [.string k] :: row D 0 [.int .i64 v] :: R))) := Cls.inh s4
          have f8 := fun s : Cls (fun w' => St W w' (RepA A r :: row V 0 EnV.zero.cells :: row B 0 [.string k] :: row D 0 [.int .i64 v] :: R)) => (repLd s.h).2.2.1
          have fq := fun s : Cls (fun w' => St W w' (RepA A r :: row V 0 EnV.zero.cells :: row B 0 [.string k] :: row D 0 [.int .i64 v] :: R)) => repQuota s.h
          refine wp_region_class (fun w' => St W w' (RepA A r :: row V 0 EnV.zero.cells :: row B 0 [.string k] :: row D 0 [.int .i64 v] :: R)) (by kernel_rfl) (by kernel_rfl) s4.drew ?_
          repeat (go_big_quiet_step ((rename_i s; first
            | (go_at_call 137; refine lenB_c HH.out.ownL (St.pick 3 (RepA.open.1 s.h)) ?_; exact Cls.end _ s.h)
            | (go_at_call 74; refine room_c HH.out s.h ?_; rintro w9 s9; rw [HR.out]; exact Cls.end _ s9))))
          clear hN f8 fq
          refine wpQuiet_nil ?_
          rintro ⟨w5, s5⟩
          dsimp only
          go_wp2_with fail
          go_meet
          case rel => exact ⟨by rw [← HFB.out] <;> rfl, s5⟩
  case rest =>
  obtain ⟨rfl, s6⟩ := hcut
  clear HFB HO HR
  have l5 := (repLd s6).1
  go_wp2_with (first
    | (go_at_call 130; refine next_c HN.out HN0.out (St.pick 1 (RepA.open.1 s6)) ?_; rintro w7 s7; rw [HNN.out]; have s8 : St W w7 (RepA A q :: row V 0 EnV.zero.cells :: row B 0 [.string k] :: row D 0 [.int .i64 v] :: R) := (by rw [HQ.out]; exact RepA.open.2 (s7.perm [1])))
    | (refine wpl_allocA rfl rfl zero_st s8 ?_; rintro N w9 s9)
    | (refine wpl_storeA (vs := [.int .i64 n, .int .i64 r.site]) rfl (.tmp 10) (.tmp 50) (by rfl) agg_st (by rfl) (by rfl) rfl (st_one _ _) s9 rfl ?_; rintro wa sa; have lN := run_loadG agg_st (vs := [.int .i64 n, .int .i64 r.site]) rfl sa.rowAll)
    | (go_at_call 86; refine del1_c (sa.perm [3, 3]) ?_; rintro wb sb; rw [HF.out, HX.out])
    | (refine wpl_allocA rfl rfl zero_en sb ?_; rintro M wc sc)
    | (refine wpl_storeA (vs := f.cells) rfl (.tmp 12) (.tmp 60) (by rfl) agg_en (by rfl) (by rfl) rfl (env_one _) sc rfl ?_; rintro wd sd; have lM := run_loadG agg_en (vs := f.cells) rfl sd.rowAll; have s1d : St W wd (RepA A q :: row M 0 f.cells :: row B 0 [.string k] :: row D 0 [.int .i64 v] :: row N 0 [.int .i64 n, .int .i64 r.site] :: row V 0 EnV.zero.cells :: R) := St.pick 4 sd)
    | (go_at_call 77; refine set_c HQO.out s1d ?_; rintro we se; rw [HZ.out])
    | (refine wpl_build rfl rfl (v := .agg EnV.zero.cells.toArray) (by kernel_rfl) ?_)
    | (refine wpl_storeA (vs := EnV.zero.cells) rfl (.tmp 6) (.tmp 69) (by rfl) agg_en (by rfl) (by rfl) rfl (env_one _) (St.pick 5 se) rfl ?_; rintro wz sz))
  have hL := run_loadA agg_en (vs := EnV.zero.cells) rfl sz.rowAll
  exact bodyPost_ret (v := .tuple #[.agg (EnV.zero.cells).toArray, .int .i64 z]) (by simp [results, Tryz.results82, asAddr, hL]) rfl (HK2.out _ ((sz.perm [0, 1, 3]).dropN 3))

set_option maxRecDepth 100000 in
set_option maxHeartbeats 8000000 in
theorem dwrite_ok {B D : Nat} {k : ByteArray} {v : Int} (h : RepOK r) (hfb : r.fullB k = false) (hn : r.cnt < 4294967295) (hw : checkE (delE k v (r.cnt + 1) r.site) = 0) (hs : { r with cnt := r.cnt + 1 }.setW (delE k v (r.cnt + 1) r.site) = 0) (st : St W w (RepA A r :: row B 0 [.string k] :: row D 0 [.int .i64 v] :: R))
    (K : ∀ w', St W w' (RepA A ({ r with cnt := r.cnt + 1 }.set (delE k v (r.cnt + 1) r.site)) :: row B 0 [.string k] :: row D 0 [.int .i64 v] :: R) → post (.returned (.tuple #[.agg (delE k v (r.cnt + 1) r.site).cells.toArray, .int .i64 0])) w') :
    Calls Tryz.prog 82 #[.pointer (some ⟨A.p, 0, none⟩), .string k, .func (.func 86) #[] #[.pointer (some ⟨B, 0, none⟩), .pointer (some ⟨D, 0, none⟩)]] w post := by
  have HK := hid K; clear K
  have HH := hid h
  obtain ⟨o, ho⟩ : ∃ o, bhas r.own k = o := ⟨_, rfl⟩
  obtain ⟨q0, hq0⟩ : ∃ q0, decide (r.quota ≤ (r.own.length : Int)) = q0 := ⟨_, rfl⟩
  obtain ⟨rb, hrb⟩ : ∃ rb, r.roomB k = rb := ⟨_, rfl⟩
  have hfb2 : ((!o && q0) || !rb) = false := by rw [← hfb, ← ho, ← hq0, ← hrb]; rfl
  have HFB := hid hfb2
  have HO := hid ho; have HR := hid hrb
  clear ho hrb hfb hfb2
  have HN : Hid (r.cnt < 4294967295) := hid hn
  have HN0 : Hid (0 ≤ r.cnt) := hid h.cnt
  obtain ⟨q, hq⟩ : ∃ q : RepV, q = { r with cnt := r.cnt + 1 } := ⟨_, rfl⟩
  have hqo : RepOK q := by rw [hq]; exact h.withC (by have := h.cnt; omega)
  have HQ := hid hq
  have HQO := hid hqo
  obtain ⟨n, hnn⟩ : ∃ n, r.cnt + 1 = n := ⟨_, rfl⟩
  have HNN := hid hnn
  rw [hnn] at hw
  have HX := hid hw
  obtain ⟨f, hff⟩ : ∃ f, delE k v n r.site = f := ⟨_, rfl⟩
  have HF : Hid ((if checkE (delE k v n r.site) = 0 then delE k v n r.site else EnV.zero) = f) := hid (by rw [if_pos hw]; exact hff)
  rw [← hq, hnn, hff] at hs
  have HZ := hid hs
  have HK2 : Hid (∀ w', St W w' (RepA A (q.set f) :: row B 0 [.string k] :: row D 0 [.int .i64 v] :: R) → post (.returned (.tuple #[.agg f.cells.toArray, .int .i64 0])) w') := hid (by rw [← hff, ← hnn]; have := HK.out; rw [← hq] at this; exact this)
  clear hq hqo hnn hn hff hw hs HK
  clear h
  go_enter Tryz.func82, Tryz.ntmps82
  go_upto_region 2 with (first
    | (refine wpl_allocA rfl rfl zero_en st ?_; rintro V w1 s1; have s2 : St W w1 (RepA A r :: row V 0 EnV.zero.cells :: row B 0 [.string k] :: row D 0 [.int .i64 v] :: R) := St.pick 1 s1; have l8 := (repLd s2).2.2.1)
    | (go_at_call 136; refine getB_c HH.out.own HH.out.ownL HH.out.ownT (St.pick 3 (RepA.open.1 s2)) ?_; rintro w3 s3; rw [HO.out]; have s4 : St W w3 (RepA A r :: row V 0 EnV.zero.cells :: row B 0 [.string k] :: row D 0 [.int .i64 v] :: R) := RepA.open.2 (s3.perm [1, 1, 1])))
  go_cut [42] (fun x wx => x = .bool false ∧ St W wx (RepA A r :: row V 0 EnV.zero.cells :: row B 0 [.string k] :: row D 0 [.int .i64 v] :: R))
  case first =>
    cases o with
    | true =>
      cases rb with
      | true =>
        try simp only [Act.put, List.setIfInBounds_toArray, List.set_cons_succ, List.set_cons_zero]
        have hN : Nonempty (Cls (fun w' => St W w' (RepA A r :: row V 0 EnV.zero.cells :: row B 0 [.string k] :: row D 0 [.int .i64 v] :: R))) := Cls.inh s4
        have f8 := fun s : Cls (fun w' => St W w' (RepA A r :: row V 0 EnV.zero.cells :: row B 0 [.string k] :: row D 0 [.int .i64 v] :: R)) => (repLd s.h).2.2.1
        have fq := fun s : Cls (fun w' => St W w' (RepA A r :: row V 0 EnV.zero.cells :: row B 0 [.string k] :: row D 0 [.int .i64 v] :: R)) => repQuota s.h
        refine wp_region_class (fun w' => St W w' (RepA A r :: row V 0 EnV.zero.cells :: row B 0 [.string k] :: row D 0 [.int .i64 v] :: R)) (by kernel_rfl) (by kernel_rfl) s4.drew ?_
        repeat (go_big_quiet_step ((rename_i s; first
          | (go_at_call 137; refine lenB_c HH.out.ownL (St.pick 3 (RepA.open.1 s.h)) ?_; exact Cls.end _ s.h)
          | (go_at_call 74; refine room_c HH.out s.h ?_; rintro w9 s9; rw [HR.out]; exact Cls.end _ s9))))
        clear hN f8 fq
        refine wpQuiet_nil ?_
        rintro ⟨w5, s5⟩
        dsimp only
        go_wp2_with fail
        go_meet
        case rel => exact ⟨by rw [← HFB.out] <;> rfl, s5⟩
      | false =>
        try simp only [Act.put, List.setIfInBounds_toArray, List.set_cons_succ, List.set_cons_zero]
        have hN : Nonempty (Cls (fun w' => St W w' (RepA A r :: row V 0 EnV.zero.cells :: row B 0 [.string k] :: row D 0 [.int .i64 v] :: R))) := Cls.inh s4
        have f8 := fun s : Cls (fun w' => St W w' (RepA A r :: row V 0 EnV.zero.cells :: row B 0 [.string k] :: row D 0 [.int .i64 v] :: R)) => (repLd s.h).2.2.1
        have fq := fun s : Cls (fun w' => St W w' (RepA A r :: row V 0 EnV.zero.cells :: row B 0 [.string k] :: row D 0 [.int .i64 v] :: R)) => repQuota s.h
        refine wp_region_class (fun w' => St W w' (RepA A r :: row V 0 EnV.zero.cells :: row B 0 [.string k] :: row D 0 [.int .i64 v] :: R)) (by kernel_rfl) (by kernel_rfl) s4.drew ?_
        repeat (go_big_quiet_step ((rename_i s; first
          | (go_at_call 137; refine lenB_c HH.out.ownL (St.pick 3 (RepA.open.1 s.h)) ?_; exact Cls.end _ s.h)
          | (go_at_call 74; refine room_c HH.out s.h ?_; rintro w9 s9; rw [HR.out]; exact Cls.end _ s9))))
        clear hN f8 fq
        refine wpQuiet_nil ?_
        rintro ⟨w5, s5⟩
        dsimp only
        go_wp2_with fail
        go_meet
        case rel => exact ⟨by rw [← HFB.out] <;> rfl, s5⟩
    | false =>
      cases q0 with
      | true =>
        try simp only [Act.put, List.setIfInBounds_toArray, List.set_cons_succ, List.set_cons_zero]
        have hN : Nonempty (Cls (fun w' => St W w' (RepA A r :: row V 0 EnV.zero.cells :: row B 0 [.string k] :: row D 0 [.int .i64 v] :: R))) := Cls.inh s4
        have f8 := fun s : Cls (fun w' => St W w' (RepA A r :: row V 0 EnV.zero.cells :: row B 0 [.string k] :: row D 0 [.int .i64 v] :: R)) => (repLd s.h).2.2.1
        have fq := fun s : Cls (fun w' => St W w' (RepA A r :: row V 0 EnV.zero.cells :: row B 0 [.string k] :: row D 0 [.int .i64 v] :: R)) => repQuota s.h
        refine wp_region_class (fun w' => St W w' (RepA A r :: row V 0 EnV.zero.cells :: row B 0 [.string k] :: row D 0 [.int .i64 v] :: R)) (by kernel_rfl) (by kernel_rfl) s4.drew ?_
        repeat (go_big_quiet_step ((rename_i s; first
          | (go_at_call 137; refine lenB_c HH.out.ownL (St.pick 3 (RepA.open.1 s.h)) ?_; exact Cls.end _ s.h)
          | (go_at_call 74; refine room_c HH.out s.h ?_; rintro w9 s9; rw [HR.out]; exact Cls.end _ s9))))
        clear hN f8 fq
        refine wpQuiet_nil ?_
        rintro ⟨w5, s5⟩
        dsimp only
        go_wp2_with fail
        go_meet
        case rel => exact ⟨by rw [← HFB.out] <;> rfl, s5⟩
      | false =>
        cases rb with
        | true =>
          try simp only [Act.put, List.setIfInBounds_toArray, List.set_cons_succ, List.set_cons_zero]
          have hN : Nonempty (Cls (fun w' => St W w' (RepA A r :: row V 0 EnV.zero.cells :: row B 0 [.string k] :: row D 0 [.int .i64 v] :: R))) := Cls.inh s4
          have f8 := fun s : Cls (fun w' => St W w' (RepA A r :: row V 0 EnV.zero.cells :: row B 0 [.string k] :: row D 0 [.int .i64 v] :: R)) => (repLd s.h).2.2.1
          have fq := fun s : Cls (fun w' => St W w' (RepA A r :: row V 0 EnV.zero.cells :: row B 0 [.string k] :: row D 0 [.int .i64 v] :: R)) => repQuota s.h
          refine wp_region_class (fun w' => St W w' (RepA A r :: row V 0 EnV.zero.cells :: row B 0 [.string k] :: row D 0 [.int .i64 v] :: R)) (by kernel_rfl) (by kernel_rfl) s4.drew ?_
          repeat (go_big_quiet_step ((rename_i s; first
            | (go_at_call 137; refine lenB_c HH.out.ownL (St.pick 3 (RepA.open.1 s.h)) ?_; exact Cls.end _ s.h)
            | (go_at_call 74; refine room_c HH.out s.h ?_; rintro w9 s9; rw [HR.out]; exact Cls.end _ s9))))
          clear hN f8 fq
          refine wpQuiet_nil ?_
          rintro ⟨w5, s5⟩
          dsimp only
          go_wp2_with fail
          go_meet
          case rel => exact ⟨by rw [← HFB.out] <;> rfl, s5⟩
        | false =>
          try simp only [Act.put, List.setIfInBounds_toArray, List.set_cons_succ, List.set_cons_zero]
          have hN : Nonempty (Cls (fun w' => St W w' (RepA A r :: row V 0 EnV.zero.cells :: row B 0 [.string k] :: row D 0 [.int .i64 v] :: R))) := Cls.inh s4
          have f8 := fun s : Cls (fun w' => St W w' (RepA A r :: row V 0 EnV.zero.cells :: row B 0 [.string k] :: row D 0 [.int .i64 v] :: R)) => (repLd s.h).2.2.1
          have fq := fun s : Cls (fun w' => St W w' (RepA A r :: row V 0 EnV.zero.cells :: row B 0 [.string k] :: row D 0 [.int .i64 v] :: R)) => repQuota s.h
          refine wp_region_class (fun w' => St W w' (RepA A r :: row V 0 EnV.zero.cells :: row B 0 [.string k] :: row D 0 [.int .i64 v] :: R)) (by kernel_rfl) (by kernel_rfl) s4.drew ?_
          repeat (go_big_quiet_step ((rename_i s; first
            | (go_at_call 137; refine lenB_c HH.out.ownL (St.pick 3 (RepA.open.1 s.h)) ?_; exact Cls.end _ s.h)
            | (go_at_call 74; refine room_c HH.out s.h ?_; rintro w9 s9; rw [HR.out]; exact Cls.end _ s9))))
          clear hN f8 fq
          refine wpQuiet_nil ?_
          rintro ⟨w5, s5⟩
          dsimp only
          go_wp2_with fail
          go_meet
          case rel => exact ⟨by rw [← HFB.out] <;> rfl, s5⟩
  case rest =>
  obtain ⟨rfl, s6⟩ := hcut
  clear HFB HO HR
  have l5 := (repLd s6).1
  go_wp2_with (first
    | (go_at_call 130; refine next_c HN.out HN0.out (St.pick 1 (RepA.open.1 s6)) ?_; rintro w7 s7; rw [HNN.out]; have s8 : St W w7 (RepA A q :: row V 0 EnV.zero.cells :: row B 0 [.string k] :: row D 0 [.int .i64 v] :: R) := (by rw [HQ.out]; exact RepA.open.2 (s7.perm [1])))
    | (refine wpl_allocA rfl rfl zero_st s8 ?_; rintro N w9 s9)
    | (refine wpl_storeA (vs := [.int .i64 n, .int .i64 r.site]) rfl (.tmp 10) (.tmp 50) (by rfl) agg_st (by rfl) (by rfl) rfl (st_one _ _) s9 rfl ?_; rintro wa sa; have lN := run_loadG agg_st (vs := [.int .i64 n, .int .i64 r.site]) rfl sa.rowAll)
    | (go_at_call 86; refine del1_c (sa.perm [3, 3]) ?_; rintro wb sb; rw [HF.out, HX.out])
    | (refine wpl_allocA rfl rfl zero_en sb ?_; rintro M wc sc)
    | (refine wpl_storeA (vs := f.cells) rfl (.tmp 12) (.tmp 60) (by rfl) agg_en (by rfl) (by rfl) rfl (env_one _) sc rfl ?_; rintro wd sd; have lM := run_loadG agg_en (vs := f.cells) rfl sd.rowAll; have s1d : St W wd (RepA A q :: row M 0 f.cells :: row B 0 [.string k] :: row D 0 [.int .i64 v] :: row N 0 [.int .i64 n, .int .i64 r.site] :: row V 0 EnV.zero.cells :: R) := St.pick 4 sd)
    | (go_at_call 77; refine set_c HQO.out s1d ?_; rintro we se; rw [HZ.out]; have mM := run_loadG agg_en (vs := f.cells) rfl (St.pick 1 se).rowAll)
    | (refine wpl_storeA (vs := f.cells) rfl (.tmp 6) (.tmp 71) (by rfl) agg_en (by rfl) (by rfl) rfl (env_one _) (St.pick 5 se) rfl ?_; rintro wz sz))
  have hL := run_loadA agg_en (vs := f.cells) rfl sz.rowAll
  exact bodyPost_ret (v := .tuple #[.agg (f.cells).toArray, .int .i64 0]) (by simp [results, Tryz.results82, asAddr, hL]) rfl (HK2.out _ ((sz.perm [0, 1, 3]).dropN 3))

/-- An entry of the site's own is set down, as Put makes it. -/
theorem dwrite_c {B D : Nat} {k : ByteArray} {v : Int} (h : RepOK r) (st : St W w (RepA A r :: row B 0 [.string k] :: row D 0 [.int .i64 v] :: R))
    (K : ∀ w', St W w' (RepA A (r.write k (delE k v)) :: row B 0 [.string k] :: row D 0 [.int .i64 v] :: R) → post (.returned (.tuple #[.agg (if r.writeW k (delE k v) = 0 then delE k v (r.cnt + 1) r.site else EnV.zero).cells.toArray, .int .i64 (r.writeW k (delE k v))])) w') :
    Calls Tryz.prog 82 #[.pointer (some ⟨A.p, 0, none⟩), .string k, .func (.func 86) #[] #[.pointer (some ⟨B, 0, none⟩), .pointer (some ⟨D, 0, none⟩)]] w post := by
  unfold RepV.write RepV.writeW at K
  cases hf : r.fullB k with
  | true =>
    simp only [hf, if_true] at K
    exact dwrite_full h hf st K
  | false =>
    simp only [hf, Bool.false_eq_true, if_false] at K
    by_cases hc : 4294967295 ≤ r.cnt
    · simp only [if_pos hc] at K
      exact dwrite_cnt h hf hc st K
    · simp only [if_neg hc] at K
      by_cases hw : checkE (delE k v (r.cnt + 1) r.site) = 0
      · have hw' : ¬ checkE (delE k v (r.cnt + 1) r.site) ≠ 0 := fun x => x hw
        simp only [if_neg hw'] at K
        by_cases hs : { r with cnt := r.cnt + 1 }.setW (delE k v (r.cnt + 1) r.site) = 0
        · simp only [if_pos hs] at K
          exact dwrite_ok h hf (by omega) hw hs st (by intro w' s; have := K w' s; rwa [hs] at this)
        · simp only [if_neg hs] at K
          exact dwrite_set h hf (by omega) hw hs st K
      · have hw' : checkE (delE k v (r.cnt + 1) r.site) ≠ 0 := hw
        simp only [if_pos hw', if_neg hw] at K
        exact dwrite_bad h hf (by omega) hw st K
end
end Go.Proofs.YtggbeedghblakaaGreatDoor

/- The replica's Delete. -/
namespace Go.Proofs.YtggbeedghblakaaGreatDoor
open Go.RowKit Go.Qd RepV

namespace RepV
def delW (r : RepV) (k : ByteArray) (kp : Int) : Int := if checkE (putE k ⟨#[]⟩ 1 0) ≠ 0 then checkE (putE k ⟨#[]⟩ 1 0) else if liveB r k = true then r.writeW k (delE k kp) else 3
def del (r : RepV) (k : ByteArray) (kp : Int) : RepV := if checkE (putE k ⟨#[]⟩ 1 0) ≠ 0 then r else if liveB r k = true then r.write k (delE k kp) else r
def delX (r : RepV) (k : ByteArray) (kp : Int) : EnV := if r.delW k kp = 0 then delE k kp (r.cnt + 1) r.site else EnV.zero
end RepV

section
variable {W w : World} {R : List HP} {post : Ending → World → Prop} {A : RAd} {r : RepV}

set_option maxRecDepth 100000 in
set_option maxHeartbeats 4000000 in
theorem rdel_bad {k : ByteArray} (hf : FirstW W) (hx : ¬ checkE (putE k ⟨#[]⟩ 1 0) = 0) (st : St W w (RepA A r :: R))
    (K : ∀ w', St W w' (RepA A r :: R) → post (.returned (.tuple #[.agg EnV.zero.cells.toArray, .int .i64 (checkE (putE k ⟨#[]⟩ 1 0))])) w') :
    Calls Tryz.prog 29 #[.pointer (some ⟨A.p, 0, none⟩), .string k] w post := by
  obtain ⟨x, hxx⟩ : ∃ x, checkE (putE k ⟨#[]⟩ 1 0) = x := ⟨_, rfl⟩
  have hne : (x != 0) = true := by rw [← hxx]; simp [hx]
  have HX := hid hxx
  have HF : Hid ((if checkE (putE k ⟨#[]⟩ 1 0) = 0 then putE k ⟨#[]⟩ 1 0 else EnV.zero) = EnV.zero) := hid (by rw [if_neg hx])
  rw [hxx] at K
  clear hxx hx
  have HK := hid K; clear K
  have s1 := st.alloc #[.string k] 9
  obtain ⟨B, hB⟩ : ∃ B, w.heap.size = B := ⟨_, rfl⟩
  rw [hB] at s1
  go_enter Tryz.func29, Tryz.ntmps29
  go_wp2_with (first
    | (refine wpl_allocA rfl rfl zero_en s1 ?_; rintro V w4 s4; have b0 := boxOne (St.pick 1 s4))
    | (refine wpl_loadA (vs := [.int .i64 1, .int .i64 0]) rfl (.global 0) (by rfl) agg_st (by rfl) rfl (hf.cells s4) ?_)
    | (go_at_call 81; refine eput_c s4 ?_; rintro w5 s5; rw [HF.out, HX.out])
    | (refine wpl_allocA rfl rfl zero_en s5 ?_; rintro G w6 s6)
    | (refine wpl_storeA (vs := EnV.zero.cells) rfl (.tmp 6) (.tmp 15) (by rfl) agg_en (by rfl) (by rfl) rfl (env_one _) s6 rfl ?_; rintro w7 s7)
    | (refine wpl_build rfl rfl (v := .agg EnV.zero.cells.toArray) (by kernel_rfl) ?_)
    | (refine wpl_storeA (vs := EnV.zero.cells) rfl (.tmp 4) (.tmp 19) (by rfl) agg_en (by rfl) (by rfl) rfl (env_one _) (St.pick 1 s7) rfl ?_; rintro wz sz))
  have hL := run_loadA agg_en (vs := EnV.zero.cells) rfl sz.rowAll
  exact bodyPost_ret (v := .tuple #[.agg EnV.zero.cells.toArray, .int .i64 x]) (by simp [results, Tryz.results29, asAddr, hL]) rfl (HK.out _ (sz.dropN 3))

set_option maxRecDepth 100000 in
set_option maxHeartbeats 4000000 in
theorem rdel_none {k : ByteArray} (h : RepOK r) (hf : FirstW W) (hx : checkE (putE k ⟨#[]⟩ 1 0) = 0) (hv : liveB r k = false) (st : St W w (RepA A r :: R))
    (K : ∀ w', St W w' (RepA A r :: R) → post (.returned (.tuple #[.agg EnV.zero.cells.toArray, .int .i64 3])) w') :
    Calls Tryz.prog 29 #[.pointer (some ⟨A.p, 0, none⟩), .string k] w post := by
  have HX := hid hx
  have HH := hid h
  have HV := hid hv
  obtain ⟨f, hff⟩ : ∃ f, putE k ⟨#[]⟩ 1 0 = f := ⟨_, rfl⟩
  have HF : Hid ((if checkE (putE k ⟨#[]⟩ 1 0) = 0 then putE k ⟨#[]⟩ 1 0 else EnV.zero) = f) := hid (by rw [if_pos hx]; exact hff)
  obtain ⟨y, hy⟩ : ∃ y, (if liveB r k = true then (tget r.tab k).val else ByteArray.empty) = y := ⟨_, rfl⟩
  have HY := hid hy
  clear hx hff hy h hv
  have HK := hid K; clear K
  have s1 := st.alloc #[.string k] 9
  obtain ⟨B, hB⟩ : ∃ B, w.heap.size = B := ⟨_, rfl⟩
  rw [hB] at s1
  go_enter Tryz.func29, Tryz.ntmps29
  go_wp2_with (first
    | (refine wpl_allocA rfl rfl zero_en s1 ?_; rintro V w4 s4; have b0 := boxOne (St.pick 1 s4))
    | (refine wpl_loadA (vs := [.int .i64 1, .int .i64 0]) rfl (.global 0) (by rfl) agg_st (by rfl) rfl (hf.cells s4) ?_)
    | (go_at_call 81; refine eput_c s4 ?_; rintro w5 s5; rw [HF.out, HX.out])
    | (refine wpl_allocA rfl rfl zero_en s5 ?_; rintro G w6 s6)
    | (refine wpl_storeA (vs := f.cells) rfl (.tmp 6) (.tmp 15) (by rfl) agg_en (by rfl) (by rfl) rfl (env_one _) s6 rfl ?_; rintro w7 s7; have b1 := boxOne (St.pick 2 s7))
    | (go_at_call 48; refine rget_c HH.out (St.pick 3 s7) ?_; rintro w8 s8; rw [HY.out, HV.out])
    | (refine wpl_build rfl rfl (v := .agg EnV.zero.cells.toArray) (by kernel_rfl) ?_)
    | (refine wpl_storeA (vs := EnV.zero.cells) rfl (.tmp 4) (.tmp 29) (by rfl) agg_en (by rfl) (by rfl) rfl (env_one _) (St.pick 2 s8) rfl ?_; rintro wz sz))
  have hL := run_loadA agg_en (vs := EnV.zero.cells) rfl sz.rowAll
  exact bodyPost_ret (v := .tuple #[.agg EnV.zero.cells.toArray, .int .i64 3]) (by simp [results, Tryz.results29, asAddr, hL]) rfl (HK.out _ ((sz.perm [0, 1, 1]).dropN 3))

theorem repCells (s : St W w (RepA A r :: R)) : w.cell? ⟨A.p, 5, none⟩ = some (.pointer (some ⟨A.clk, 0, none⟩)) ∧ w.cell? ⟨A.p, 2, none⟩ = some (.int .i64 r.retain) ∧ w.cell? ⟨A.p, 0, none⟩ = some (.int .i64 r.nodes) :=
  ⟨repRow (RepA.open.1 s) 5 _ rfl, repRow (RepA.open.1 s) 2 _ rfl, repRow (RepA.open.1 s) 0 _ rfl⟩

set_option maxRecDepth 100000 in
set_option maxHeartbeats 8000000 in
theorem rdel_live {k : ByteArray} (h : RepOK r) (h1 : 0 ≤ r.site ∧ r.site < r.nodes) (h2 : 1 ≤ r.retain ∧ r.retain ≤ r.nodes) (h3 : r.nodes ≤ 12) (hf : FirstW W) (hx : checkE (putE k ⟨#[]⟩ 1 0) = 0) (hv : liveB r k = true) (st : St W w (RepA A r :: R))
    (K : ∀ kp w', St W w' (RepA A (r.write k (delE k kp)) :: R) → post (.returned (.tuple #[.agg (if r.writeW k (delE k kp) = 0 then delE k kp (r.cnt + 1) r.site else EnV.zero).cells.toArray, .int .i64 (r.writeW k (delE k kp))])) w') :
    Calls Tryz.prog 29 #[.pointer (some ⟨A.p, 0, none⟩), .string k] w post := by
  have HX := hid hx
  have HH := hid h
  have HV := hid hv
  have H1 := hid h1; have H2 := hid h2; have H3 := hid h3
  obtain ⟨f, hff⟩ : ∃ f, putE k ⟨#[]⟩ 1 0 = f := ⟨_, rfl⟩
  have HF : Hid ((if checkE (putE k ⟨#[]⟩ 1 0) = 0 then putE k ⟨#[]⟩ 1 0 else EnV.zero) = f) := hid (by rw [if_pos hx]; exact hff)
  obtain ⟨y, hy⟩ : ∃ y, (if liveB r k = true then (tget r.tab k).val else ByteArray.empty) = y := ⟨_, rfl⟩
  have HY := hid hy
  clear hx hff hy h hv h1 h2 h3
  have HK := hid K; clear K
  have s1 := st.alloc #[.string k] 9
  obtain ⟨B, hB⟩ : ∃ B, w.heap.size = B := ⟨_, rfl⟩
  rw [hB] at s1
  go_enter Tryz.func29, Tryz.ntmps29
  go_upto_region 7 with (first
    | (refine wpl_allocA rfl rfl zero_en s1 ?_; rintro V w4 s4; have b0 := boxOne (St.pick 1 s4))
    | (refine wpl_loadA (vs := [.int .i64 1, .int .i64 0]) rfl (.global 0) (by rfl) agg_st (by rfl) rfl (hf.cells s4) ?_)
    | (go_at_call 81; refine eput_c s4 ?_; rintro w5 s5; rw [HF.out, HX.out])
    | (refine wpl_allocA rfl rfl zero_en s5 ?_; rintro G w6 s6)
    | (refine wpl_storeA (vs := f.cells) rfl (.tmp 6) (.tmp 15) (by rfl) agg_en (by rfl) (by rfl) rfl (env_one _) s6 rfl ?_; rintro w7 s7; have b1 := boxOne (St.pick 2 s7))
    | (go_at_call 48; refine rget_c HH.out (St.pick 3 s7) ?_; rintro w8 s8; rw [HY.out, HV.out]))
  have s9 : St W w8 (RepA A r :: row G 0 f.cells :: row V 0 EnV.zero.cells :: row B 0 [.string k] :: R) := s8
  go_cut [10] (fun p wx => ∃ (D : Nat) (kp : Int), p = .pointer (some ⟨D, 0, none⟩) ∧ St W wx (row D 0 [.int .i64 kp] :: RepA A r :: row G 0 f.cells :: row V 0 EnV.zero.cells :: row B 0 [.string k] :: R))
  case first =>
    have u : St W w8.drew _ := s9.drew
    have gA := repCells u
    have u2 := (s9.alloc #[.int .i64 0] 3).drew
    have gB := repCells (St.pick 1 u2)
    go_region_held3 (fun w' => w'.cell? ⟨A.p, 5, none⟩ = some (.pointer (some ⟨A.clk, 0, none⟩)) ∧ w'.cell? ⟨A.p, 2, none⟩ = some (.int .i64 r.retain) ∧ w'.cell? ⟨A.p, 0, none⟩ = some (.int .i64 r.nodes))
      (first
        | with_reducible exact gC
        | with_reducible exact gB
        | with_reducible exact gA)
      (first
        | (go_at_call 85; first
            | (refine site_c (St.pick 1 (RepA.open.1 u)) ?_)
            | (refine site_c (St.pick 1 (RepA.open.1 (St.pick 1 u2))) ?_))
        | (go_at_call 84; refine keepers_c H1.out H2.out H3.out ?_; intro kp; have u3 := (s9.alloc #[.int .i64 kp] 3).drew; have gC := repCells (St.pick 1 u3)))
    all_goals
      go_wp2_with fail
      go_meet
      case rel => exact ⟨w8.heap.size, kp, rfl, u3⟩
  case rest =>
  obtain ⟨D, kp, rfl, sA⟩ := hcut
  clear b0 b1
  have b2 := boxOne (St.pick 4 sA)
  obtain ⟨z, hz⟩ : ∃ z, r.writeW k (delE k kp) = z := ⟨_, rfl⟩
  obtain ⟨e, he⟩ : ∃ e, (if z = 0 then delE k kp (r.cnt + 1) r.site else EnV.zero) = e := ⟨_, rfl⟩
  have HZ := hid hz
  have HE : Hid ((if r.writeW k (delE k kp) = 0 then delE k kp (r.cnt + 1) r.site else EnV.zero) = e) := hid (by rw [hz]; exact he)
  have HK2 : Hid (∀ w', St W w' (RepA A (r.write k (delE k kp)) :: R) → post (.returned (.tuple #[.agg e.cells.toArray, .int .i64 z])) w') := hid (fun w' s => by have := HK.out kp w' s; rwa [HE.out, hz] at this)
  clear hz he HK
  go_wp2_with (first
    | (go_at_call 82; refine dwrite_c HH.out (sA.perm [1, 3, 0]) ?_; rintro wb sb; rw [HE.out, HZ.out])
    | (refine wpl_storeA (vs := e.cells) rfl (.tmp 4) (.tmp 50) (by rfl) agg_en (by rfl) (by rfl) rfl (env_one _) (St.pick 4 sb) rfl ?_; rintro wz sz))
  have hL := run_loadA agg_en (vs := e.cells) rfl sz.rowAll
  exact bodyPost_ret (v := .tuple #[.agg e.cells.toArray, .int .i64 z]) (by simp [results, Tryz.results29, asAddr, hL]) rfl (HK2.out _ ((sz.perm [0, 1, 1, 1]).dropN 4))

/-- A key is deleted. -/
theorem rdel_c {k : ByteArray} (h : RepOK r) (h1 : 0 ≤ r.site ∧ r.site < r.nodes) (h2 : 1 ≤ r.retain ∧ r.retain ≤ r.nodes) (h3 : r.nodes ≤ 12) (hf : FirstW W) (st : St W w (RepA A r :: R))
    (K : ∀ kp w', St W w' (RepA A (r.del k kp) :: R) → post (.returned (.tuple #[.agg (r.delX k kp).cells.toArray, .int .i64 (r.delW k kp)])) w') :
    Calls Tryz.prog 29 #[.pointer (some ⟨A.p, 0, none⟩), .string k] w post := by
  unfold RepV.delX RepV.del RepV.delW at K
  by_cases hx : checkE (putE k ⟨#[]⟩ 1 0) = 0
  · have hx' : ¬ checkE (putE k ⟨#[]⟩ 1 0) ≠ 0 := fun e => e hx
    simp only [if_neg hx'] at K
    cases hv : liveB r k with
    | true =>
      simp only [hv, if_true] at K
      exact rdel_live h h1 h2 h3 hf hx hv st K
    | false =>
      simp only [hv, Bool.false_eq_true, if_false] at K
      exact rdel_none h hf hx hv st (K 0)
  · have hx' : checkE (putE k ⟨#[]⟩ 1 0) ≠ 0 := hx
    simp only [if_pos hx', if_neg hx] at K
    exact rdel_bad hf hx st (K 0)
end
end Go.Proofs.YtggbeedghblakaaGreatDoor
