/- The replica's Delete. -/
import Derived.Test.YtggbeedghblakaaGreatDoorDelI
import Derived.Test.YtggbeedghblakaaGreatDoorRepJ
namespace Go.Proofs.YtggbeedghblakaaGreatDoor
open Go.RowKit Go.Qd RepV

namespace RepV
def delW (r : RepV) (k : ByteArray) (kp : Int) : Int := if checkE (putE k ⟨#[]⟩ 1 0) ≠ 0 then checkE (putE k ⟨#[]⟩ 1 0) else if liveB r k = true then r.writeW k (delE k kp) else 3
def del (r : RepV) (k : ByteArray) (kp : Int) : RepV := if checkE (putE k ⟨#[]⟩ 1 0) ≠ 0 then r else if liveB r k = true then r.write k (delE k kp) else r
def delX (r : RepV) (k : ByteArray) (kp : Int) : EnV := if r.delW k kp = 0 then delE k kp (r.cnt + 1) r.site else EnV.zero
end RepV

section
variable {W w : World} {R : List HP} {post : Ending → World → Prop} {A : RAd} {r : RepV}

set_option maxRecDepth 100000 in
set_option maxHeartbeats 4000000 in
theorem rdel_bad {k : ByteArray} (hf : FirstW W) (hx : ¬ checkE (putE k ⟨#[]⟩ 1 0) = 0) (st : St W w (RepA A r :: R))
    (K : ∀ w', St W w' (RepA A r :: R) → post (.returned (.tuple #[.agg EnV.zero.cells.toArray, .int .i64 (checkE (putE k ⟨#[]⟩ 1 0))])) w') :
    Calls Tryz.prog 29 #[.pointer (some ⟨A.p, 0, none⟩), .string k] w post := by
  obtain ⟨x, hxx⟩ : ∃ x, checkE (putE k ⟨#[]⟩ 1 0) = x := ⟨_, rfl⟩
  have hne : (x != 0) = true := by rw [← hxx]; simp [hx]
  have HX := hid hxx
  have HF : Hid ((if checkE (putE k ⟨#[]⟩ 1 0) = 0 then putE k ⟨#[]⟩ 1 0 else EnV.zero) = EnV.zero) := hid (by rw [if_neg hx])
  rw [hxx] at K
  clear hxx hx
  have HK := hid K; clear K
  have s1 := st.alloc #[.string k] 9
  obtain ⟨B, hB⟩ : ∃ B, w.heap.size = B := ⟨_, rfl⟩
  rw [hB] at s1
  go_enter Tryz.func29, Tryz.ntmps29
  go_wp2_with (first
    | (refine wpl_allocA rfl rfl zero_en s1 ?_; rintro V w4 s4; have b0 := boxOne (St.pick 1 s4))
    | (refine wpl_loadA (vs := [.int .i64 1, .int .i64 0]) rfl (.global 0) (by rfl) agg_st (by rfl) rfl (hf.cells s4) ?_)
    | (go_at_call 81; refine eput_c s4 ?_; rintro w5 s5; rw [HF.out, HX.out])
    | (refine wpl_allocA rfl rfl zero_en s5 ?_; rintro G w6 s6)
    | (refine wpl_storeA (vs := EnV.zero.cells) rfl (.tmp 6) (.tmp 15) (by rfl) agg_en (by rfl) (by rfl) rfl (env_one _) s6 rfl ?_; rintro w7 s7)
    | (refine wpl_build rfl rfl (v := .agg EnV.zero.cells.toArray) (by kernel_rfl) ?_)
    | (refine wpl_storeA (vs := EnV.zero.cells) rfl (.tmp 4) (.tmp 19) (by rfl) agg_en (by rfl) (by rfl) rfl (env_one _) (St.pick 1 s7) rfl ?_; rintro wz sz))
  have hL := run_loadA agg_en (vs := EnV.zero.cells) rfl sz.rowAll
  exact bodyPost_ret (v := .tuple #[.agg EnV.zero.cells.toArray, .int .i64 x]) (by simp [results, Tryz.results29, asAddr, hL]) rfl (HK.out _ (sz.dropN 3))

set_option maxRecDepth 100000 in
set_option maxHeartbeats 4000000 in
theorem rdel_none {k : ByteArray} (h : RepOK r) (hf : FirstW W) (hx : checkE (putE k ⟨#[]⟩ 1 0) = 0) (hv : liveB r k = false) (st : St W w (RepA A r :: R))
    (K : ∀ w', St W w' (RepA A r :: R) → post (.returned (.tuple #[.agg EnV.zero.cells.toArray, .int .i64 3])) w') :
    Calls Tryz.prog 29 #[.pointer (some ⟨A.p, 0, none⟩), .string k] w post := by
  have HX := hid hx
  have HH := hid h
  have HV := hid hv
  obtain ⟨f, hff⟩ : ∃ f, putE k ⟨#[]⟩ 1 0 = f := ⟨_, rfl⟩
  have HF : Hid ((if checkE (putE k ⟨#[]⟩ 1 0) = 0 then putE k ⟨#[]⟩ 1 0 else EnV.zero) = f) := hid (by rw [if_pos hx]; exact hff)
  obtain ⟨y, hy⟩ : ∃ y, (if liveB r k = true then (tget r.tab k).val else ByteArray.empty) = y := ⟨_, rfl⟩
  have HY := hid hy
  clear hx hff hy h hv
  have HK := hid K; clear K
  have s1 := st.alloc #[.string k] 9
  obtain ⟨B, hB⟩ : ∃ B, w.heap.size = B := ⟨_, rfl⟩
  rw [hB] at s1
  go_enter Tryz.func29, Tryz.ntmps29
  go_wp2_with (first
    | (refine wpl_allocA rfl rfl zero_en s1 ?_; rintro V w4 s4; have b0 := boxOne (St.pick 1 s4))
    | (refine wpl_loadA (vs := [.int .i64 1, .int .i64 0]) rfl (.global 0) (by rfl) agg_st (by rfl) rfl (hf.cells s4) ?_)
    | (go_at_call 81; refine eput_c s4 ?_; rintro w5 s5; rw [HF.out, HX.out])
    | (refine wpl_allocA rfl rfl zero_en s5 ?_; rintro G w6 s6)
    | (refine wpl_storeA (vs := f.cells) rfl (.tmp 6) (.tmp 15) (by rfl) agg_en (by rfl) (by rfl) rfl (env_one _) s6 rfl ?_; rintro w7 s7; have b1 := boxOne (St.pick 2 s7))
    | (go_at_call 48; refine rget_c HH.out (St.pick 3 s7) ?_; rintro w8 s8; rw [HY.out, HV.out])
    | (refine wpl_build rfl rfl (v := .agg EnV.zero.cells.toArray) (by kernel_rfl) ?_)
    | (refine wpl_storeA (vs := EnV.zero.cells) rfl (.tmp 4) (.tmp 29) (by rfl) agg_en (by rfl) (by rfl) rfl (env_one _) (St.pick 2 s8) rfl ?_; rintro wz sz))
  have hL := run_loadA agg_en (vs := EnV.zero.cells) rfl sz.rowAll
  exact bodyPost_ret (v := .tuple #[.agg EnV.zero.cells.toArray, .int .i64 3]) (by simp [results, Tryz.results29, asAddr, hL]) rfl (HK.out _ ((sz.perm [0, 1, 1]).dropN 3))

theorem repCells (s : St W w (RepA A r :: R)) : w.cell? ⟨A.p, 5, none⟩ = some (.pointer (some ⟨A.clk, 0, none⟩)) ∧ w.cell? ⟨A.p, 2, none⟩ = some (.int .i64 r.retain) ∧ w.cell? ⟨A.p, 0, none⟩ = some (.int .i64 r.nodes) :=
  ⟨repRow (RepA.open.1 s) 5 _ rfl, repRow (RepA.open.1 s) 2 _ rfl, repRow (RepA.open.1 s) 0 _ rfl⟩

set_option maxRecDepth 100000 in
set_option maxHeartbeats 8000000 in
theorem rdel_live {k : ByteArray} (h : RepOK r) (h1 : 0 ≤ r.site ∧ r.site < r.nodes) (h2 : 1 ≤ r.retain ∧ r.retain ≤ r.nodes) (h3 : r.nodes ≤ 12) (hf : FirstW W) (hx : checkE (putE k ⟨#[]⟩ 1 0) = 0) (hv : liveB r k = true) (st : St W w (RepA A r :: R))
    (K : ∀ kp w', St W w' (RepA A (r.write k (delE k kp)) :: R) → post (.returned (.tuple #[.agg (if r.writeW k (delE k kp) = 0 then delE k kp (r.cnt + 1) r.site else EnV.zero).cells.toArray, .int .i64 (r.writeW k (delE k kp))])) w') :
    Calls Tryz.prog 29 #[.pointer (some ⟨A.p, 0, none⟩), .string k] w post := by
  have HX := hid hx
  have HH := hid h
  have HV := hid hv
  have H1 := hid h1; have H2 := hid h2; have H3 := hid h3
  obtain ⟨f, hff⟩ : ∃ f, putE k ⟨#[]⟩ 1 0 = f := ⟨_, rfl⟩
  have HF : Hid ((if checkE (putE k ⟨#[]⟩ 1 0) = 0 then putE k ⟨#[]⟩ 1 0 else EnV.zero) = f) := hid (by rw [if_pos hx]; exact hff)
  obtain ⟨y, hy⟩ : ∃ y, (if liveB r k = true then (tget r.tab k).val else ByteArray.empty) = y := ⟨_, rfl⟩
  have HY := hid hy
  clear hx hff hy h hv h1 h2 h3
  have HK := hid K; clear K
  have s1 := st.alloc #[.string k] 9
  obtain ⟨B, hB⟩ : ∃ B, w.heap.size = B := ⟨_, rfl⟩
  rw [hB] at s1
  go_enter Tryz.func29, Tryz.ntmps29
  go_upto_region 7 with (first
    | (refine wpl_allocA rfl rfl zero_en s1 ?_; rintro V w4 s4; have b0 := boxOne (St.pick 1 s4))
    | (refine wpl_loadA (vs := [.int .i64 1, .int .i64 0]) rfl (.global 0) (by rfl) agg_st (by rfl) rfl (hf.cells s4) ?_)
    | (go_at_call 81; refine eput_c s4 ?_; rintro w5 s5; rw [HF.out, HX.out])
    | (refine wpl_allocA rfl rfl zero_en s5 ?_; rintro G w6 s6)
    | (refine wpl_storeA (vs := f.cells) rfl (.tmp 6) (.tmp 15) (by rfl) agg_en (by rfl) (by rfl) rfl (env_one _) s6 rfl ?_; rintro w7 s7; have b1 := boxOne (St.pick 2 s7))
    | (go_at_call 48; refine rget_c HH.out (St.pick 3 s7) ?_; rintro w8 s8; rw [HY.out, HV.out]))
  have s9 : St W w8 (RepA A r :: row G 0 f.cells :: row V 0 EnV.zero.cells :: row B 0 [.string k] :: R) := s8
  go_cut [10] (fun p wx => ∃ (D : Nat) (kp : Int), p = .pointer (some ⟨D, 0, none⟩) ∧ St W wx (row D 0 [.int .i64 kp] :: RepA A r :: row G 0 f.cells :: row V 0 EnV.zero.cells :: row B 0 [.string k] :: R))
  case first =>
    have u : St W w8.drew _ := s9.drew
    have gA := repCells u
    have u2 := (s9.alloc #[.int .i64 0] 3).drew
    have gB := repCells (St.pick 1 u2)
    go_region_held3 (fun w' => w'.cell? ⟨A.p, 5, none⟩ = some (.pointer (some ⟨A.clk, 0, none⟩)) ∧ w'.cell? ⟨A.p, 2, none⟩ = some (.int .i64 r.retain) ∧ w'.cell? ⟨A.p, 0, none⟩ = some (.int .i64 r.nodes))
      (first
        | with_reducible exact gC
        | with_reducible exact gB
        | with_reducible exact gA)
      (first
        | (go_at_call 85; first
            | (refine site_c (St.pick 1 (RepA.open.1 u)) ?_)
            | (refine site_c (St.pick 1 (RepA.open.1 (St.pick 1 u2))) ?_))
        | (go_at_call 84; refine keepers_c H1.out H2.out H3.out ?_; intro kp; have u3 := (s9.alloc #[.int .i64 kp] 3).drew; have gC := repCells (St.pick 1 u3)))
    all_goals
      go_wp2_with fail
      go_meet
      case rel => exact ⟨w8.heap.size, kp, rfl, u3⟩
  case rest =>
  obtain ⟨D, kp, rfl, sA⟩ := hcut
  clear b0 b1
  have b2 := boxOne (St.pick 4 sA)
  obtain ⟨z, hz⟩ : ∃ z, r.writeW k (delE k kp) = z := ⟨_, rfl⟩
  obtain ⟨e, he⟩ : ∃ e, (if z = 0 then delE k kp (r.cnt + 1) r.site else EnV.zero) = e := ⟨_, rfl⟩
  have HZ := hid hz
  have HE : Hid ((if r.writeW k (delE k kp) = 0 then delE k kp (r.cnt + 1) r.site else EnV.zero) = e) := hid (by rw [hz]; exact he)
  have HK2 : Hid (∀ w', St W w' (RepA A (r.write k (delE k kp)) :: R) → post (.returned (.tuple #[.agg e.cells.toArray, .int .i64 z])) w') := hid (fun w' s => by have := HK.out kp w' s; rwa [HE.out, hz] at this)
  clear hz he HK
  go_wp2_with (first
    | (go_at_call 82; refine dwrite_c HH.out (sA.perm [1, 3, 0]) ?_; rintro wb sb; rw [HE.out, HZ.out])
    | (refine wpl_storeA (vs := e.cells) rfl (.tmp 4) (.tmp 50) (by rfl) agg_en (by rfl) (by rfl) rfl (env_one _) (St.pick 4 sb) rfl ?_; rintro wz sz))
  have hL := run_loadA agg_en (vs := e.cells) rfl sz.rowAll
  exact bodyPost_ret (v := .tuple #[.agg e.cells.toArray, .int .i64 z]) (by simp [results, Tryz.results29, asAddr, hL]) rfl (HK2.out _ ((sz.perm [0, 1, 1, 1]).dropN 4))

/-- A key is deleted. -/
theorem rdel_c {k : ByteArray} (h : RepOK r) (h1 : 0 ≤ r.site ∧ r.site < r.nodes) (h2 : 1 ≤ r.retain ∧ r.retain ≤ r.nodes) (h3 : r.nodes ≤ 12) (hf : FirstW W) (st : St W w (RepA A r :: R))
    (K : ∀ kp w', St W w' (RepA A (r.del k kp) :: R) → post (.returned (.tuple #[.agg (r.delX k kp).cells.toArray, .int .i64 (r.delW k kp)])) w') :
    Calls Tryz.prog 29 #[.pointer (some ⟨A.p, 0, none⟩), .string k] w post := by
  unfold RepV.delX RepV.del RepV.delW at K
  by_cases hx : checkE (putE k ⟨#[]⟩ 1 0) = 0
  · have hx' : ¬ checkE (putE k ⟨#[]⟩ 1 0) ≠ 0 := fun e => e hx
    simp only [if_neg hx'] at K
    cases hv : liveB r k with
    | true =>
      simp only [hv, if_true] at K
      exact rdel_live h h1 h2 h3 hf hx hv st K
    | false =>
      simp only [hv, Bool.false_eq_true, if_false] at K
      exact rdel_none h hf hx hv st (K 0)
  · have hx' : checkE (putE k ⟨#[]⟩ 1 0) ≠ 0 := hx
    simp only [if_pos hx', if_neg hx] at K
    exact rdel_bad hf hx st (K 0)
end
end Go.Proofs.YtggbeedghblakaaGreatDoor
