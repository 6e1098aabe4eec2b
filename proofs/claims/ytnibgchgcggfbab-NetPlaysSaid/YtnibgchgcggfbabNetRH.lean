/- The reference's net: Turn, the way that turns a byte. -/
import Derived.Test.YtnibgchgcggfbabNetRG
namespace Go.Proofs.Ytnibgchgcggfbab
open Go.RowKit Go.Qd

section
variable {W w : World} {R : List HP} {post : Ending → World → Prop} {B : Nat} {N : RN} {ps : List PV}

set_option maxRecDepth 100000 in
set_option maxHeartbeats 4000000 in
theorem rturn_c {i k : Nat} {z : Int} {p : PV} (st : St W w R) (rds : Rds W R 4 N.a N.n N.c (pcells ps)) (hi : i < N.n) (hn : N.n ≤ 4096) (hil : i < ps.length) (hp : ps[i] = p) (rdb : Rds W R 1 p.a p.n p.c (bvs p.bs)) (hpn : p.n ≤ 4096) (hsp : p.sp = false) (hk : k < p.n) (hz : z ≠ 0)
    (K : ∀ a' c' ab cb w', St W w' (OwnS 4 a' N.n c' (pcells (ps.set i ⟨p.f, p.t, ab, p.n, cb, p.bs.set k (xorB (p.bs.getD k 0) z), true⟩)) :: OwnS 1 ab p.n cb (bvs (p.bs.set k (xorB (p.bs.getD k 0) z))) :: R) →
      post (.returned (.tuple #[.agg (rnC { N with a := a', c := c' }).toArray, .int .i64 0])) w') :
    Calls Try.prog 34 #[.agg (rnC N).toArray, .int .i64 i, .int .i64 k, .int .u8 z] w post := by
  have HK := hid K; clear K
  have rd := rds w st
  have hle := rd.le
  have hbig := rd.big
  obtain ⟨g, o, hga⟩ := rd.addr (by omega)
  have HGA := hid hga
  have HRD := hid rds
  have hh : hasR N.n (i : Int) = true := by unfold hasR; simp; omega
  have HH := hid hh
  have HP := hid hp
  have hi1 : (i : Int) < (N.n : Int) := by omega
  obtain ⟨pf, pt, pa, pn, pc, pbs, psp⟩ := p
  dsimp only at HK rdb hpn hsp hk
  subst hsp
  have HRB := hid rdb
  have hbl := hid (bvs_len (rdb w st))
  have hk1 : ¬ (pn : Int) ≤ (k : Int) := by omega
  have hk0 : ¬ (k : Int) < 0 := by omega
  have hkl := hid (show k < pbs.length by rw [hbl.out]; exact hk)
  have hz1 : (z == 0) = false := by simpa using hz
  have hb0 : (0 + pn) * 1 ≤ 140737488355328 := by omega
  have hm0 : 0 + pn ≤ maxLen := by unfold maxLen; omega
  have hb1 : (0 + N.n) * 48 ≤ 140737488355328 := by omega
  have hm1 : 0 + N.n ≤ maxLen := by unfold maxLen; omega
  clear rd hga rds hh hp rdb hz
  go_enter Try.func34, Try.ntmps34
  go_wp2_with (first
    | (refine wpl_boxA (vs := rnC N) rfl (.tmp 0) rfl rfl st ?_; rintro T w0 s0)
    | (refine wpl_allocA rfl rfl zero43 s0 ?_; rintro E w1 s1)
    | (go_at_call 19; refine rhas_c s1 ?_; rintro w2 s2; rw [HH.out]; have g2 := rn_l (St.pick 1 s2); rw [HGA.out] at g2; have r2 := HRD.out _ (s2.dropN 2); rw [HGA.out] at r2; obtain ⟨c0, c1, c2, c3⟩ := parcel4 r2 hil; rw [HP.out] at c0 c1 c2 c3; dsimp only at c0 c1 c2 c3; have s3 := s2.alloc #[.int .i64 pf, .int .i64 pt, .slice pa pn pc, .bool false] 54; obtain ⟨b0, b1, b2, b3⟩ := box4 s3; have s4 := s3.alloc #[] 5; obtain ⟨d0, d1, d2, d3⟩ := box4 (St.pick 1 s4); have s5 := OwnS.empty (sz := 1) s4.drop (some ⟨w2.heap.size + 1, 0, none⟩); have r5 := HRB.out _ (s4.dropN 4))
    | (refine wpl_loadA (vs := rnC N) rfl (.tmp 4) (by rfl) agg43 (by rfl) (rnC_len _) (St.pick 1 s1).rowAll ?_)
    | (at_builtin; refine wpl_append rfl (.tmp 37) (.tmp 39) rfl Try.elem28 rfl rfl s5 r5 hb0 hm0 ?_; rintro a6 c6 w6 s6; rw [Nat.zero_add, List.nil_append] at s6; rw [Nat.zero_add]; obtain ⟨e0, e1, e2, e3⟩ := box4 (St.pick 1 s6); have fe := (St.pick 1 s6).rowFree (i := 2) (by simp); rw [Nat.zero_add] at fe))
  have s7 := (St.pick 1 s6).rowSet (i := 2) (by simp) (.slice a6 pn c6)
  rw [Nat.zero_add] at s7
  have s7' : St W (w6.setCell ⟨w2.heap.size, 2, none⟩ (.slice a6 pn c6)) (row w2.heap.size 0 [.int .i64 pf, .int .i64 pt, .slice a6 pn c6, .bool false] :: OwnS 1 a6 pn c6 (bvs pbs) :: row E 0 (rnC noRN) :: row T 0 (rnC N) :: R) := s7
  clear s7 e0 e1 e2 e3 fe d0 d1 d2 d3 b0 b1 b2 b3 c0 c1 c2 c3 s5 r5 s4 s3 g2 r2 s0 s1
  generalize w6.setCell ⟨w2.heap.size, 2, none⟩ (.slice a6 pn c6) = w7 at s7' ⊢
  generalize w2.heap.size = B at s7' ⊢
  have rb := OwnS.rd (St.pick 1 s7')
  obtain ⟨g2, o2, rfl⟩ := rb.addr (by omega)
  have s8 := s7'.drew
  obtain ⟨e0, e1, e2, e3⟩ := box4 s8
  have hkk : k < pbs.length := hkl.out
  have hcb := (rb.drew).at (i := k) (u := .int .u8 (pbs.getD k 0)) (by simp [bvs, hkk])
  have hfb := OwnS.freeAt (St.pick 1 s8) (j := k) (by simp [bvs, hkk])
  have hk2 : (k : Int) < (pn : Int) := by omega
  go_wp2_with fail
  go_still_tail 11, (by kernel_rfl)
  change wpList _ _ _ _ _ w7.drew
  generalize w7.drew = w8 at s8 e0 e1 e2 e3 hcb hfb ⊢
  have hX : xorB (pbs.getD k 0) z = bits BinOp.xor IntKind.u8 pbs[k] z := by unfold xorB; simp [List.getD, hkk]
  rw [hX] at HK
  generalize bits BinOp.xor IntKind.u8 pbs[k] z = X at HK ⊢
  have y1 := OwnS.setAt (St.pick 1 s8) (j := k) (v := .int .u8 X) (by simp [bvs, hkk]) rfl
  rw [show (bvs pbs).set k (.int .u8 X) = bvs (pbs.set k X) from by simp [bvs, List.map_set]] at y1
  have x1 := St.pick 1 y1
  obtain ⟨j0, j1, j2, j3⟩ := box4 x1
  have fj := x1.rowFree (i := 3) (by simp)
  have y2 := x1.rowSet (i := 3) (by simp) (.bool true)
  rw [Nat.zero_add] at fj y2
  have y2' : St W ((w8.setCell ⟨g2, o2 + k, none⟩ (.int .u8 X)).setCell ⟨B, 3, none⟩ (.bool true)) (row B 0 [.int .i64 pf, .int .i64 pt, .slice (some ⟨g2, o2, none⟩) pn c6, .bool true] :: OwnS 1 (some ⟨g2, o2, none⟩) pn c6 (bvs (pbs.set k X)) :: row E 0 (rnC noRN) :: row T 0 (rnC N) :: R) := y2
  clear y2 x1
  have y3 := y2'.alloc #[] 54
  have g3 := rn_l (St.pick 4 y3)
  have y4 := OwnS.empty (sz := 4) y3.drop (some ⟨w8.heap.size, 0, none⟩)
  have r4 := HRD.out _ (y3.dropN 5)
  go_wp2_with (first
    | (at_builtin; refine wpl_append rfl (.tmp 54) (.tmp 56) rfl Try.elem39 rfl rfl y4 r4 hb1 hm1 ?_; rintro a9 c9 w9 s9; rw [Nat.zero_add, List.nil_append] at s9; rw [Nat.zero_add]; obtain ⟨g3, o3, rfl⟩ := (OwnS.rd s9).addr (by omega); have f9 := rn_free (St.pick 4 s9) (i := 2) (by omega); have g9 := rn_l (St.pick 4 s9); have sA := rn_setL (St.pick 4 s9) (some ⟨g3, o3, none⟩) N.n c9; have gA := rn_l sA; obtain ⟨m0, m1, m2, m3⟩ := box4 (St.pick 2 sA))
    | (refine wpl_storeO (vs := [.int .i64 pf, .int .i64 pt, .slice (some ⟨g2, o2, none⟩) pn c6, .bool true]) rfl (.tmp 63) (.tmp 62) (by rfl) agg54 (j := i) (by rfl) (by rfl) rfl (by simp [Value.oneCell']) (St.pick 1 sA) hi ?_; rintro wB sB)
    | (refine wpl_loadA (vs := rnC { N with a := some ⟨g3, o3, none⟩, c := c9 }) rfl (.tmp 4) (by rfl) agg43 (by rfl) (rnC_len _) (St.pick 1 sB).rowAll ?_)
    | (refine wpl_storeA (vs := rnC { N with a := some ⟨g3, o3, none⟩, c := c9 }) rfl (.tmp 8) (.tmp 64) (by rfl) agg43 (by rfl) (by rfl) (rnC_len _) (rnC_one _) (St.pick 4 sB) (rnC_len _) ?_; rintro wC sC))
  have hL := run_loadA agg43 (rnC_len _) sC.rowAll
  refine bodyPost_ret (v := .tuple #[.agg (rnC { N with a := some ⟨g3, o3, none⟩, c := c9 }).toArray, .int .i64 0]) (by simp [results, Try.results34, asAddr, hL]) rfl (HK.out (some ⟨g3, o3, none⟩) c9 (some ⟨g2, o2, none⟩) c6 _ ?_)
  rw [pcells_set hil]
  exact (sC.perm [0, 1, 1]).dropN 3

end

end Go.Proofs.Ytnibgchgcggfbab
