/- Delete's certificate; who keeps it. -/
import Derived.Test.YtggbeedghblakaaGreatDoorClks
import Derived.Test.YtggbeedghblakaaGreatDoorRepsG
namespace Go.Proofs.YtggbeedghblakaaGreatDoor
open Go.RowKit Go.Qd RepV

/-- A certificate. -/
def delE (k : ByteArray) (kp : Int) (c s : Int) : EnV := ⟨k, ByteArray.empty, true, c, s, c, s, kp, 0⟩

section
variable {W w : World} {R : List HP} {post : Ending → World → Prop}
set_option maxRecDepth 100000 in
set_option maxHeartbeats 2000000 in
theorem edel_c {k : ByteArray} {kp c s : Int} (st : St W w R)
    (K : ∀ w', St W w' R → post (.returned (.tuple #[.agg (if checkE (delE k kp c s) = 0 then delE k kp c s else EnV.zero).cells.toArray, .int .i64 (checkE (delE k kp c s))])) w') :
    Calls Tryz.prog 87 #[.string k, .agg [Value.int .i64 c, .int .i64 s].toArray, .int .i64 kp] w post := by
  obtain ⟨f, hf⟩ : ∃ f, (if checkE (delE k kp c s) = 0 then delE k kp c s else EnV.zero) = f := ⟨_, rfl⟩
  rw [hf] at K
  have HF := hid hf
  clear hf
  have HK := hid K; clear K
  go_enter Tryz.func87, Tryz.ntmps87
  go_wp2_with (first
    | (refine wpl_boxA (vs := [.int .i64 c, .int .i64 s]) rfl (.tmp 1) rfl rfl st ?_; rintro T w1 s1)
    | (refine wpl_allocA rfl rfl zero_en s1 ?_; rintro U w2 s2)
    | (refine wpl_loadA (vs := [.int .i64 c, .int .i64 s]) rfl (.tmp 4) (by rfl) agg_st (by rfl) rfl (St.pick 1 s2).rowAll ?_)
    | (refine wpl_build rfl rfl (v := .agg (delE k kp c s).cells.toArray) (by kernel_rfl) ?_)
    | (go_at_call 135; refine checked_c s2 ?_; rintro w3 s3; rw [HF.out])
    | (refine wpl_storeA (vs := f.cells) rfl (.tmp 6) (.tmp 14) (by rfl) agg_en (by rfl) (by rfl) rfl (env_one _) s3 rfl ?_; rintro w4 s4))
  have hL := run_loadA agg_en rfl s4.rowAll
  exact bodyPost_ret (v := .tuple #[.agg f.cells.toArray, .int .i64 (checkE (delE k kp c s))]) (by simp [results, Tryz.results87, asAddr, hL]) rfl (HK.out _ (s4.dropN 2))

set_option maxRecDepth 100000 in
set_option maxHeartbeats 2000000 in
theorem del1_c {B D : Nat} {k : ByteArray} {v c s : Int} (st : St W w (row B 0 [.string k] :: row D 0 [.int .i64 v] :: R))
    (K : ∀ w', St W w' (row B 0 [.string k] :: row D 0 [.int .i64 v] :: R) → post (.returned (.tuple #[.agg (if checkE (delE k v c s) = 0 then delE k v c s else EnV.zero).cells.toArray, .int .i64 (checkE (delE k v c s))])) w') :
    Calls Tryz.prog 86 #[.agg [Value.int .i64 c, .int .i64 s].toArray, .pointer (some ⟨B, 0, none⟩), .pointer (some ⟨D, 0, none⟩)] w post := by
  obtain ⟨f, hf⟩ : ∃ f, (if checkE (delE k v c s) = 0 then delE k v c s else EnV.zero) = f := ⟨_, rfl⟩
  obtain ⟨x, hx⟩ : ∃ x, checkE (delE k v c s) = x := ⟨_, rfl⟩
  rw [hf, hx] at K
  have HF := hid hf; have HX := hid hx
  clear hf hx
  have HK := hid K; clear K
  go_enter Tryz.func86, Tryz.ntmps86
  go_wp2_with (first
    | (refine wpl_boxA (vs := [.int .i64 c, .int .i64 s]) rfl (.tmp 0) rfl rfl st ?_; rintro T w1 s1)
    | (refine wpl_allocA rfl rfl zero_en s1 ?_; rintro U w2 s2; have b0 := boxOne (St.pick 2 s2); have d0 := boxOne (St.pick 3 s2))
    | (refine wpl_loadA (vs := [.int .i64 c, .int .i64 s]) rfl (.tmp 3) (by rfl) agg_st (by rfl) rfl (St.pick 1 s2).rowAll ?_)
    | (go_at_call 87; refine edel_c s2 ?_; rintro w3 s3; rw [HF.out, HX.out])
    | (refine wpl_storeA (vs := f.cells) rfl (.tmp 4) (.tmp 10) (by rfl) agg_en (by rfl) (by rfl) rfl (env_one _) s3 rfl ?_; rintro w4 s4))
  have hL := run_loadA agg_en (vs := f.cells) rfl s4.rowAll
  exact bodyPost_ret (v := .tuple #[.agg f.cells.toArray, .int .i64 x]) (by simp [results, Tryz.results86, asAddr, hL]) rfl (HK.out _ (s4.dropN 2))

/-- The value of a live entry. -/
def liveB (r : RepV) (k : ByteArray) : Bool := thas r.tab k && !(tget r.tab k).dead
section
attribute [local go_sem ↓] execOp_ldAny execOp_stE
set_option maxRecDepth 100000 in
set_option maxHeartbeats 4000000 in
theorem rget_c {A : RAd} {r : RepV} {k : ByteArray} (h : RepOK r) (st : St W w (RepA A r :: R))
    (K : ∀ w', St W w' (RepA A r :: R) → post (.returned (.tuple #[.string (if liveB r k = true then (tget r.tab k).val else ByteArray.empty), .bool (liveB r k)])) w') :
    Calls Tryz.prog 48 #[.pointer (some ⟨A.p, 0, none⟩), .string k] w post := by
  have HK := hid K; clear K
  have HH := hid h
  have hl : r.tab.length ≤ 4096 := by have := h.len; have := h.room; omega
  have HL := hid hl
  obtain ⟨t, ht⟩ : ∃ t, thas r.tab k = t := ⟨_, rfl⟩
  obtain ⟨x, hx⟩ : ∃ x, tget r.tab k = x := ⟨_, rfl⟩
  have HT := hid ht; have HX := hid hx
  have HV : Hid (liveB r k = (t && !x.dead)) := hid (by unfold liveB; rw [ht, hx])
  clear h hl ht hx
  have l7 := (repLd st).2.1
  cases t with
  | false =>
    have HV2 : Hid (liveB r k = false) := hid (by rw [HV.out]; rfl)
    go_enter Tryz.func48, Tryz.ntmps48
    go_wp2_with (first
      | (go_at_call 70; refine getE_c HH.out.tab HL.out (St.pick 2 (RepA.open.1 st)) ?_; rintro w2 s2; rw [HT.out, HX.out])
      | (refine wpl_allocA rfl rfl zero_en s2 ?_; rintro T w3 s3)
      | (refine wpl_storeA (vs := x.cells) rfl (.tmp 6) (.tmp 15) (by rfl) agg_en (by rfl) (by rfl) rfl (env_one _) s3 rfl ?_; rintro w4 s4))
    have h9 := HK.out w4 (RepA.open.2 (s4.drop.perm [1, 1]))
    rw [HV2.out, if_neg (by decide)] at h9
    exact h9
  | true =>
    cases hd : x.dead with
    | true =>
      have HV2 : Hid (liveB r k = false) := hid (by rw [HV.out, hd]; rfl)
      have HD := hid hd
      clear hd
      go_enter Tryz.func48, Tryz.ntmps48
      go_wp2_with (first
        | (go_at_call 70; refine getE_c HH.out.tab HL.out (St.pick 2 (RepA.open.1 st)) ?_; rintro w2 s2; rw [HT.out, HX.out])
        | (refine wpl_allocA rfl rfl zero_en s2 ?_; rintro T w3 s3)
        | (refine wpl_storeA (vs := x.cells) rfl (.tmp 6) (.tmp 15) (by rfl) agg_en (by rfl) (by rfl) rfl (env_one _) s3 rfl ?_; rintro w4 s4; have ld := (enL s4).2.2.1; rw [HD.out] at ld))
      have h9 := HK.out w4 (RepA.open.2 (s4.drop.perm [1, 1]))
      rw [HV2.out, if_neg (by decide)] at h9
      exact h9
    | false =>
      have HV2 : Hid (liveB r k = true) := hid (by rw [HV.out, hd]; rfl)
      have HD := hid hd
      clear hd
      go_enter Tryz.func48, Tryz.ntmps48
      go_wp2_with (first
        | (go_at_call 70; refine getE_c HH.out.tab HL.out (St.pick 2 (RepA.open.1 st)) ?_; rintro w2 s2; rw [HT.out, HX.out])
        | (refine wpl_allocA rfl rfl zero_en s2 ?_; rintro T w3 s3)
        | (refine wpl_storeA (vs := x.cells) rfl (.tmp 6) (.tmp 15) (by rfl) agg_en (by rfl) (by rfl) rfl (env_one _) s3 rfl ?_; rintro w4 s4; have ld := (enL s4).2.2.1; rw [HD.out] at ld; have lv := (enL s4).2.1))
      have h9 := HK.out w4 (RepA.open.2 (s4.drop.perm [1, 1]))
      rw [HV2.out, if_pos rfl, HX.out] at h9
      exact h9
end

/-- Who keeps a site's certificates. -/
theorem keepers_c {site retain nodes : Int} (h1 : 0 ≤ site ∧ site < nodes) (h2 : 1 ≤ retain ∧ retain ≤ nodes) (h3 : nodes ≤ 12) (K : ∀ x, post (.returned (.int .i64 x)) w) :
    Calls Tryz.prog 84 #[.int .i64 site, .int .i64 retain, .int .i64 nodes] w post := by
  have HK := hid K; clear K
  have a1 : decide (nodes < 1) = false := by simp; omega
  have a2 : decide (nodes > 12) = false := by simp; omega
  have a3 : decide (site < 0) = false := by simp; omega
  have a4 : decide (site ≥ nodes) = false := by simp; omega
  have a5 : decide (retain < 1) = false := by simp; omega
  have a6 : decide (retain > nodes) = false := by simp; omega
  go_enter Tryz.func84, Tryz.ntmps84
  go_wp2_with fail
  go_loopw [7, 34] (fun bv iv wr => ∃ (x : Int) (i : Nat), (i : Int) ≤ retain ∧ iv = .int .i64 i ∧ bv = .int .i64 x ∧ wr = w) (fun _ iv _ => retain.toNat - (intOf iv).toNat)
  case atStart => exact ⟨0, 0, by omega, rfl, rfl, rfl⟩
  case round =>
    obtain ⟨x, i, hi, rfl, rfl, rfl⟩ := hrel
    by_cases hlt : (i : Int) < retain
    · have hm0 : 0 ≤ (site + (i : Int)) % nodes := Int.emod_nonneg _ (by omega)
      have hm1 : (site + (i : Int)) % nodes ≤ 64 := by have := Int.emod_lt_of_pos (site + (i : Int)) (b := nodes) (by omega); omega
      go_wp2_with fail
      go_roundw
      case rel => exact ⟨_, i + 1, by omega, by go_num, rfl, trivial⟩
      case measure => simp [intOf]; omega
    · go_wp2_with fail
      exact HK.out _
end
end Go.Proofs.YtggbeedghblakaaGreatDoor
