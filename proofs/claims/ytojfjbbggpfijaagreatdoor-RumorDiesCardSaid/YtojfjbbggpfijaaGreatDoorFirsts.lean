/- Firsts: several texts, joined. The replica: Put. -/
import Derived.Test.YtojfjbbggpfijaaGreatDoorRepI
import Derived.Test.YtojfjbbggpfijaaGreatDoorRows
import Derived.LaidMore
import Derived.ProofKit
import Derived.OpenShut
import Derived.ShutString
namespace Go.Proofs.YtojfjbbggpfijaaGreatDoor
open Go.RowKit Go.Qd RepV

/-- The package variable first, as it came in. -/
structure FirstW (W : World) : Prop where
  c0 : W.cell? ⟨0, 0, none⟩ = some (.int .i64 1)
  c1 : W.cell? ⟨0, 1, none⟩ = some (.int .i64 0)

section
variable {W w : World} {R : List HP} {post : Ending → World → Prop} {A : RAd} {r : RepV}

theorem FirstW.cells (h : FirstW W) (s : St W w R) : ∀ j u, [Value.int .i64 1, .int .i64 0][j]? = some u → w.cell? ⟨0, 0 + j, none⟩ = some u := by
  have f : ∀ j u, W.cell? ⟨0, j, none⟩ = some u → w.cell? ⟨0, j, none⟩ = some u := fun j u e => (s.1.cell (World.block_lt_of_cell? _ _ e)).trans e
  intro j u hu
  rw [Nat.zero_add]
  match j, hu with
  | 0, hu => cases hu; exact f 0 _ h.c0
  | 1, hu => cases hu; exact f 1 _ h.c1

set_option maxRecDepth 100000 in
set_option maxHeartbeats 4000000 in
theorem rput_bad {k v : ByteArray} (hf : FirstW W) (hx : ¬ checkE (putE k v 1 0) = 0) (st : St W w (RepA A r :: R))
    (K : ∀ w', St W w' (RepA A r :: R) → post (.returned (.tuple #[.agg EnV.zero.cells.toArray, .int .i64 (checkE (putE k v 1 0))])) w') :
    Calls Tryz.prog 18 #[.pointer (some ⟨A.p, 0, none⟩), .string k, .string v] w post := by
  obtain ⟨x, hxx⟩ : ∃ x, checkE (putE k v 1 0) = x := ⟨_, rfl⟩
  rw [hxx] at K hx
  have HX := hid hxx
  have HF : Hid ((if checkE (putE k v 1 0) = 0 then putE k v 1 0 else EnV.zero) = EnV.zero) := hid (by rw [if_neg (by rw [hxx]; exact hx)])
  have h2 : (x != 0) = true := by simp [hx]
  clear hxx hx
  have HK := hid K; clear K
  have s1 := st.alloc #[.string k] 9
  have s2 := s1.alloc #[.string v] 9
  obtain ⟨B, hB⟩ : ∃ B, w.heap.size = B := ⟨_, rfl⟩
  have hD : (w.alloc (.cells #[.string k] 9)).heap.size = B + 1 := by rw [← hB]; simp
  rw [hB] at s2
  rw [hD] at s2
  have s3 : St W _ (RepA A r :: row B 0 [.string k] :: row (B + 1) 0 [.string v] :: R) := s2.perm [2, 1]
  clear s1 s2 hD
  go_enter Tryz.func18, Tryz.ntmps18
  go_wp2_with (first
    | (refine wpl_allocA rfl rfl zero_en s3 ?_; rintro V w4 s4; have b0 := boxOne (St.pick 2 s4); have d0 := boxOne (St.pick 3 s4))
    | (refine wpl_loadA (vs := [.int .i64 1, .int .i64 0]) rfl (.global 0) (by rfl) agg_st (by rfl) rfl (hf.cells s4) ?_)
    | (go_at_call 47; refine eput_c s4 ?_; rintro w5 s5; rw [HF.out, HX.out])
    | (refine wpl_allocA rfl rfl zero_en s5 ?_; rintro G w6 s6)
    | (refine wpl_storeA (vs := EnV.zero.cells) rfl (.tmp 8) (.tmp 15) (by rfl) agg_en (by rfl) (by rfl) rfl (env_one _) s6 rfl ?_; rintro w7 s7)
    | (refine wpl_build rfl rfl (v := .agg EnV.zero.cells.toArray) (by kernel_rfl) ?_)
    | (refine wpl_storeA (vs := EnV.zero.cells) rfl (.tmp 6) (.tmp 19) (by rfl) agg_en (by rfl) (by rfl) rfl (env_one _) (St.pick 1 s7) rfl ?_; rintro wz sz))
  have hL := run_loadA agg_en (vs := EnV.zero.cells) rfl sz.rowAll
  exact bodyPost_ret (v := .tuple #[.agg EnV.zero.cells.toArray, .int .i64 x]) (by simp [results, Tryz.results18, asAddr, hL]) rfl (HK.out _ ((sz.perm [0, 0, 1, 1]).dropN 4))

set_option maxRecDepth 100000 in
set_option maxHeartbeats 4000000 in
theorem rput_in {k v : ByteArray} (h : RepOK r) (hf : FirstW W) (hx : checkE (putE k v 1 0) = 0) (st : St W w (RepA A r :: R))
    (K : ∀ w', St W w' (RepA A (r.write k (putE k v)) :: R) → post (.returned (.tuple #[.agg (if r.writeW k (putE k v) = 0 then putE k v (r.cnt + 1) r.site else EnV.zero).cells.toArray, .int .i64 (r.writeW k (putE k v))])) w') :
    Calls Tryz.prog 18 #[.pointer (some ⟨A.p, 0, none⟩), .string k, .string v] w post := by
  have HX := hid hx
  obtain ⟨f, hff⟩ : ∃ f, putE k v 1 0 = f := ⟨_, rfl⟩
  have HF : Hid ((if checkE (putE k v 1 0) = 0 then putE k v 1 0 else EnV.zero) = f) := hid (by rw [if_pos hx]; exact hff)
  obtain ⟨y, hy⟩ : ∃ y, r.writeW k (putE k v) = y := ⟨_, rfl⟩
  rw [hy] at K
  obtain ⟨e, he⟩ : ∃ e, (if y = 0 then putE k v (r.cnt + 1) r.site else EnV.zero) = e := ⟨_, rfl⟩
  rw [he] at K
  have HY := hid hy
  have HE : Hid ((if r.writeW k (putE k v) = 0 then putE k v (r.cnt + 1) r.site else EnV.zero) = e) := hid (by rw [hy]; exact he)
  have HH := hid h
  clear hx hff hy he h
  have HK := hid K; clear K
  have s1 := st.alloc #[.string k] 9
  have s2 := s1.alloc #[.string v] 9
  obtain ⟨B, hB⟩ : ∃ B, w.heap.size = B := ⟨_, rfl⟩
  have hD : (w.alloc (.cells #[.string k] 9)).heap.size = B + 1 := by rw [← hB]; simp
  rw [hB] at s2
  rw [hD] at s2
  have s3 : St W _ (RepA A r :: row B 0 [.string k] :: row (B + 1) 0 [.string v] :: R) := s2.perm [2, 1]
  clear s1 s2 hD
  go_enter Tryz.func18, Tryz.ntmps18
  go_wp2_with (first
    | (refine wpl_allocA rfl rfl zero_en s3 ?_; rintro V w4 s4; have b0 := boxOne (St.pick 2 s4); have d0 := boxOne (St.pick 3 s4))
    | (refine wpl_loadA (vs := [.int .i64 1, .int .i64 0]) rfl (.global 0) (by rfl) agg_st (by rfl) rfl (hf.cells s4) ?_)
    | (go_at_call 47; refine eput_c s4 ?_; rintro w5 s5; rw [HF.out, HX.out])
    | (refine wpl_allocA rfl rfl zero_en s5 ?_; rintro G w6 s6)
    | (refine wpl_storeA (vs := f.cells) rfl (.tmp 8) (.tmp 15) (by rfl) agg_en (by rfl) (by rfl) rfl (env_one _) s6 rfl ?_; rintro w7 s7; have b1 := boxOne (St.pick 3 s7))
    | (go_at_call 48; refine write_c HH.out (s7.perm [2, 2, 2]) ?_; rintro w8 s8; rw [HE.out, HY.out])
    | (refine wpl_storeA (vs := e.cells) rfl (.tmp 6) (.tmp 25) (by rfl) agg_en (by rfl) (by rfl) rfl (env_one _) (St.pick 4 s8) rfl ?_; rintro wz sz))
  have hL := run_loadA agg_en (vs := e.cells) rfl sz.rowAll
  exact bodyPost_ret (v := .tuple #[.agg e.cells.toArray, .int .i64 y]) (by simp [results, Tryz.results18, asAddr, hL]) rfl (HK.out _ ((sz.perm [0, 1, 1, 1]).dropN 4))

/-- A value is put. -/
theorem rput_c {k v : ByteArray} (h : RepOK r) (hf : FirstW W) (st : St W w (RepA A r :: R))
    (K : ∀ w', St W w' (RepA A (r.put k v) :: R) → post (.returned (.tuple #[.agg (r.putX k v).cells.toArray, .int .i64 (r.putW k v)])) w') :
    Calls Tryz.prog 18 #[.pointer (some ⟨A.p, 0, none⟩), .string k, .string v] w post := by
  unfold RepV.putX RepV.put RepV.putW at K
  by_cases hx : checkE (putE k v 1 0) = 0
  · have hx' : ¬ checkE (putE k v 1 0) ≠ 0 := fun e => e hx
    simp only [if_neg hx'] at K
    exact rput_in h hf hx st K
  · have hx' : checkE (putE k v 1 0) ≠ 0 := hx
    simp only [if_pos hx', if_neg hx] at K
    exact rput_bad hf hx st K
end
end Go.Proofs.YtojfjbbggpfijaaGreatDoor

/- The package variable replica.first, as the program's text lays it; options, marks and texts that came in. -/
namespace Go.Proofs.YtojfjbbggpfijaaGreatDoor
open Go.RowKit Go.Qd Go.ChangeShapes Go.WideShapes Go.ChangeAt

theorem gFirst : Tryz.prog.globalNamed "quidnunc/replica.first" = some 0 := by kernel_rfl
theorem tFirst : (Tryz.prog.globals[0]?).map (·.type) = some 57 := by kernel_rfl

set_option maxRecDepth 100000 in
theorem first_of_laid {W : World} (h : laidMetH Tryz.prog [("quidnunc/replica.first", Rows.laid_quidnunc_replica_first)] W) : FirstW W := by
  rw [MakeChecks.laidMetH_plain _ _ _ (by kernel_rfl)] at h
  obtain ⟨ps, ⟨g0, t0, cs0, f0, p0, q0, hg0, ht0, hv0, hd0, _, _⟩, _, _⟩ := h
  obtain rfl := Option.some.inj (gFirst.symm.trans hg0)
  obtain rfl := Option.some.inj (tFirst.symm.trans ht0)
  obtain ⟨xs, k, he, he2, hl, hx, hfs⟩ := DataW.trod_struct Tryz.underlying57 hd0
  have cE : Tryz.prog.cellsOf 57 = 2 := by kernel_rfl
  have c3 : Tryz.prog.cellsOf 3 = 1 := by kernel_rfl
  rw [cE] at hl
  obtain ⟨l0⟩ := cs0
  match l0, hl with
  | [u0, u1], _ =>
    have hx' : xs.length = 2 := hx
    have h0 := hfs 0 _ rfl
    have h1 := hfs 1 _ rfl
    match xs, hx' with
    | [x0, x1], _ =>
      try dsimp only at h0 h1
      have e0 : x0.1 = .lit (.int .i64 1) ∧ x1.1 = .lit (.int .i64 0) := by
        have := he2
        simp [Rows.laid_quidnunc_replica_first] at this
        exact ⟨this.1.1.symm, this.1.2.symm⟩
      obtain ⟨a, ea, ea2, _⟩ := DataW.trod_int Tryz.underlying3 (show DataW.trod _ Tryz.prog W 0 _ false k 3 [u0] = some x0 from h0)
      obtain ⟨b, eb, eb2, _⟩ := DataW.trod_int Tryz.underlying3 (show DataW.trod _ Tryz.prog W 0 _ false k 3 [u1] = some x1 from h1)
      have ha : a = 1 := by rw [ea2] at e0; simpa using e0.1
      have hb : b = 0 := by rw [eb2] at e0; simpa using e0.2
      subst ha; subst hb
      have v0 := World.var?_cell hg0 hv0 0
      have v1 := World.var?_cell hg0 hv0 1
      simp at ea eb
      subst ea; subst eb
      exact ⟨by simpa using v0, by simpa using v1⟩
end Go.Proofs.YtojfjbbggpfijaaGreatDoor
