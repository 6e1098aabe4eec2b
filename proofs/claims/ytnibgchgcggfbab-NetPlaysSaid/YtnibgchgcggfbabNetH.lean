/- net: Turn, the way that turns a byte. -/
import Derived.Test.YtnibgchgcggfbabNetG
namespace Go.Proofs.Ytnibgchgcggfbab
open Go.RowKit Go.Qd

/-- A cell of an owned slice is written. -/
theorem OwnS.setAt {W w : World} {R : List HP} {sz n c b o j : Nat} {cs : List Value} {v : Value} (st : St W w (OwnS sz (some ⟨b, o, none⟩) n c cs :: R)) (hj : j < cs.length) (hv : v.oneCell' = true) :
    St W (w.setCell ⟨b, o + j, none⟩ v) (OwnS sz (some ⟨b, o, none⟩) n c (cs.set j v) :: R) := by
  obtain ⟨sp, p, s⟩ := OwnS.open st
  have s1 : St W w (row b o (cs ++ sp) :: R) := s
  have s2 := s1.rowSet (i := j) (by rw [List.length_append]; omega) v
  rw [List.set_append_left _ _ hj] at s2
  refine OwnS.close (sp := sp) ⟨by rw [List.length_set]; exact p.len, p.spare, p.le, p.max, by simp, fun _ => ⟨_, _, rfl⟩, ?_⟩ s2
  intro u hu
  rcases List.mem_or_eq_of_mem_set hu with g | g
  · exact p.one u g
  · rw [g]; exact hv

theorem OwnS.freeAt {W w : World} {R : List HP} {sz n c b o j : Nat} {cs : List Value} (st : St W w (OwnS sz (some ⟨b, o, none⟩) n c cs :: R)) (hj : j < cs.length) : w.frozen? ⟨b, o + j, none⟩ = false := by
  obtain ⟨sp, p, s⟩ := OwnS.open st
  have s1 : St W w (row b o (cs ++ sp) :: R) := s
  exact s1.rowFree (by rw [List.length_append]; omega)

/-- The parcel that was turned. -/
def PV.turned (p : PV) (k : Nat) (z : Int) : PV := { p with bs := p.bs.set k z, sp := true }

theorem pcells_turn (ps : List PV) (i : Nat) (h : i < ps.length) (k : Nat) (z : Int) : pcells (ps.set i (ps[i].turned k z)) = (pcells ps).set (i * 4 + 3) (.bool true) := by
  induction ps generalizing i with
  | nil => simp at h
  | cons p ps ih =>
    cases i with
    | zero => simp [pcells, PV.cells, PV.turned]
    | succ i =>
      have hi : i < ps.length := by simpa using h
      have := ih i hi
      show p.cells ++ pcells (ps.set i (ps[i].turned k z)) = (p.cells ++ pcells ps).set ((i + 1) * 4 + 3) (.bool true)
      rw [this, List.set_append_right _ _ (by simp [PV.cells]; omega)]
      congr 1
      simp only [PV.cells, List.length_cons, List.length_nil]
      congr 1
      omega

/-- The turned byte, as the model reckons it. -/
def xorB (x z : Int) : Int := bits BinOp.xor IntKind.u8 x z

set_option maxHeartbeats 1600000 in
theorem turn_c {W w : World} {R : List HP} {post : Ending → World → Prop} {b : Nat} {N : NetV} {i k : Nat} {z : Int} (st : St W w (NetA b N :: R)) (h : i < N.ps.length) (hsp : N.ps[i].sp = false) (hk : k < N.ps[i].n) (hz : z ≠ 0)
    (K : ∀ w', St W w' (NetA b { N with ps := N.ps.set i (N.ps[i].turned k (xorB (N.ps[i].bs.getD k 0) z)) } :: R) → post (.returned (.int .i64 0)) w') :
    Calls Try.prog 22 #[.pointer (some ⟨b, 0, none⟩), .int .i64 i, .int .i64 k, .int .u8 z] w post := by
  have HK := hid K; clear K
  have HH := hid (hasB_yes h)
  obtain ⟨al, n, c, m, s⟩ := NetA.open st
  obtain ⟨_, _, h2, _, _⟩ := net5 s
  have rd := OwnS.rd (St.pick 1 s)
  have hl := pcells_len rd
  have hin : i < n := by omega
  have hbig := rd.big
  obtain ⟨g, o, rfl⟩ := rd.addr (by omega)
  obtain ⟨c0, c1, c2, c3⟩ := parcel4 rd h
  have s2 := (St.nth h).1 (St.pick 3 s)
  obtain ⟨p, hp⟩ : ∃ p, N.ps[i] = p := ⟨_, rfl⟩
  rw [hp] at c0 c1 c2 c3 HK hsp hk s2
  have HPP := hid hp
  clear hp
  obtain ⟨pf, pt, pa, pn, pc, pbs, psp⟩ := p
  dsimp only at c0 c1 c2 c3 HK hsp hk s2
  subst hsp
  have s3 : St W w (OwnS 1 pa pn pc (bvs pbs) :: _) := s2
  have rb := OwnS.rd s3
  have hbl := bvs_len rb
  have hbb := rb.big
  obtain ⟨g2, o2, rfl⟩ := rb.addr (by omega)
  have hkl : k < pbs.length := by omega
  have hcb := rb.at (i := k) (u := .int .u8 (pbs.getD k 0)) (by simp [bvs, hkl])
  have hfb := OwnS.freeAt s3 (j := k) (by simp [bvs, hkl])
  have hi1 : (i : Int) < (n : Int) := by omega
  have hk1 : (k : Int) < (pn : Int) := by omega
  have hz1 : (z == 0) = false := by simpa using hz
  have hf3 := OwnS.freeAt (St.pick 1 s) (j := i * 4 + 3) (by rw [pcells_size]; omega)
  rw [← Nat.add_assoc] at hf3
  have hne : (⟨g2, o2 + k, none⟩ : Addr) ≠ ⟨g, o + i * 4 + 3, none⟩ := fun e => by rw [e, c3] at hcb; cases hcb
  have hfut := fun v => (World.cell?_setCell_other (w := w) ⟨g2, o2 + k, none⟩ ⟨g, o + i * 4 + 3, none⟩ v hne).trans c3
  clear hl hbl hz hne
  go_enter Try.func22, Try.ntmps22
  go_wp2_with (go_at_call 27; refine has_c st ?_; rw [HH.out])
  have hX : xorB (pbs.getD k 0) z = bits BinOp.xor IntKind.u8 pbs[k] z := by unfold xorB; simp [List.getD, hkl]
  rw [hX] at HK
  generalize bits BinOp.xor IntKind.u8 pbs[k] z = X at HK ⊢
  have y1 := OwnS.setAt s3 (j := k) (v := .int .u8 X) (by simp [bvs, hkl]) rfl
  rw [show (bvs pbs).set k (.int .u8 X) = bvs (pbs.set k X) from by simp [bvs, List.map_set]] at y1
  have y2 := OwnS.setAt (St.pick 3 y1) (j := i * 4 + 3) (v := .bool true) (by rw [pcells_size]; omega) rfl
  have hturn := pcells_turn N.ps i h k X
  rw [HPP.out] at hturn
  rw [← hturn, ← Nat.add_assoc] at y2
  have hi2 : i < (N.ps.set i (PV.turned ⟨pf, pt, some ⟨g2, o2, none⟩, pn, pc, pbs, false⟩ k X)).length := by rw [List.length_set]; exact h
  have y3 := (St.nth (f := PV.bytes) hi2 (W := W) (w := (w.setCell ⟨g2, o2 + k, none⟩ (.int .u8 X)).setCell ⟨g, o + i * 4 + 3, none⟩ (.bool true))
    (R := row b 0 (netCells N (some ⟨g, o, none⟩) n c m) :: OwnS 4 (some ⟨g, o, none⟩) n c (pcells (N.ps.set i (PV.turned ⟨pf, pt, some ⟨g2, o2, none⟩, pn, pc, pbs, false⟩ k X))) :: MapA encL m N.cuts :: R)).2
    (by rw [List.getElem_set_self, List.eraseIdx_set_eq]; exact y2.perm [1, 1, 1, 0, 0])
  exact HK.out _ (NetA.close (N := { N with ps := N.ps.set i (PV.turned ⟨pf, pt, some ⟨g2, o2, none⟩, pn, pc, pbs, false⟩ k X) }) (y3.perm [1, 1, 1, 0]))

end Go.Proofs.Ytnibgchgcggfbab
