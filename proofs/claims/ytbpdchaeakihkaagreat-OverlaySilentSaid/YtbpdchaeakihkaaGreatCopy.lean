/- 'copy' into owned cells, 'append' of zeros, and what slices.Insert asks of its new element, in the logic of ownership. -/
import Derived.Test.YtbpdchaeakihkaaGreatSlice
import Derived.Lib.AppendZerosOnto
import Derived.Lib.Overlaps
namespace Go.Qd
open Go.RowKit

/-- A list with other elements from a place on. -/
def splice (l : List Value) (p : Nat) (x : List Value) : List Value := l.take p ++ x ++ l.drop (p + x.length)

theorem splice_len {l x : List Value} {p : Nat} (h : p + x.length ≤ l.length) : (splice l p x).length = l.length := by
  unfold splice; simp; omega

section
variable {P : Program} {W w : World} {R : List HP} {sz bytes n c m : Nat} {ao ax : Option Addr} {cs news : List Value} {t e : TypeId} {b o : Nat}

theorem St.setPart {vs xs : List Value} (s : St W w (row b o vs :: R)) {p : Nat} (hp : p + xs.length ≤ vs.length) : St W (w.setCells b (o + p) xs) (row b o (splice vs p xs) :: R) := by
  have e1 : vs = vs.take p ++ ((vs.drop p).take xs.length ++ vs.drop (p + xs.length)) := by
    rw [← List.drop_drop, List.take_append_drop, List.take_append_drop]
  have s1 : St W w (row b o (vs.take p ++ ((vs.drop p).take xs.length ++ vs.drop (p + xs.length))) :: R) := by rw [← e1]; exact s
  have hl : (vs.take p).length = p := by rw [List.length_take]; omega
  have s2 : St W w (row b (o + p) ((vs.drop p).take xs.length ++ vs.drop (p + xs.length)) :: row b o (vs.take p) :: R) := by
    have := (St.rowAppend.1 s1).pick 1; rw [hl] at this; exact this
  have hl2 : ((vs.drop p).take xs.length).length = xs.length := by rw [List.length_take, List.length_drop]; omega
  have s3 := St.rowAppend.1 s2
  have s4 := s3.setCells (us := xs) hl2.symm
  rw [hl2] at s4
  have s5 : St W (w.setCells b (o + p) xs) (row b (o + p) (xs ++ vs.drop (p + xs.length)) :: row b o (vs.take p) :: R) := St.rowAppend.2 s4
  have s6 : St W (w.setCells b (o + p) xs) (row b o (vs.take p ++ (xs ++ vs.drop (p + xs.length))) :: R) := by
    refine St.rowAppend.2 ?_
    rw [hl]
    exact s5.pick 1
  unfold splice
  rw [List.append_assoc]
  exact s6

/-- 'copy' into a part of an owned row. -/
theorem run_copy_row (E : ElemT P t e sz bytes) (ty : TypeId) {vs xs : List Value} (s : St W w (row b o vs :: R)) {p d dc cx : Nat} (hx : xs.length = Nat.min m d * sz) (hp : p + xs.length ≤ vs.length)
    {a : Addr} (hsrc : ∀ j u, xs[j]? = some u → w.cell? (a.add j) = some u) (h1 : ∀ u ∈ xs, u.oneCell' = true) :
    ∃ w', (Builtin.copy_ #[t, t] ty #[.slice (some ⟨b, o + p, none⟩) d dc, .slice (some a) m cx]).run P w = .ok (.int .i64 (Nat.min m d : Nat)) w' ∧ St W w' (row b o (splice vs p xs) :: R) := by
  obtain ⟨i, z, hi, hz, hsz, hby, hzs, hzo⟩ := E.info
  have hl := run_loadCells_list (P := P) w a xs hsrc
  rw [hx] at hl
  have hst := run_storeCells_cells (P := P) b (o + p) xs 0 w (fun j hj => by
      rw [Nat.add_zero, Nat.add_assoc, s.rowCell (List.getElem?_eq_getElem (by omega : p + j < vs.length))]; rfl)
    (fun j hj => by rw [Nat.add_zero, Nat.add_assoc]; exact s.rowFree (by omega)) h1
  rw [Nat.add_zero] at hst
  refine ⟨w.setCells b (o + p) xs, ?_, s.setPart hp⟩
  simp [Builtin.copy_, run_underlying E.und, Builtin.lenOf, Builtin.firstCells, sizeOf, typeInfo, hi, hsz, hl, hst, goInt]

theorem wpl_copy_row {ops : Array Oper} {rest : List Oper} {q : Oper} {A : Act} {Q : Exit → Act → World → Prop} (hgd : q.guard = none) (x y : Operand)
    (hop : q.op = Op.call { callee := Callee.builtin Builtin.copy, args := #[x, y], argTypes := #[t, t] }) (E : ElemT P t e sz bytes)
    {vs xs : List Value} {p d dc cx : Nat} {a : Addr} (hx : A.eval x = .slice (some ⟨b, o + p, none⟩) d dc) (hy : A.eval y = .slice (some a) m cx) (s : St W w (row b o vs :: R)) (hl : xs.length = Nat.min m d * sz) (hp : p + xs.length ≤ vs.length)
    (hsrc : ∀ j u, xs[j]? = some u → w.cell? (a.add j) = some u) (h1 : ∀ u ∈ xs, u.oneCell' = true)
    (hK : ∀ w', St W w' (row b o (splice vs p xs) :: R) → wpList P ops Q rest (A.put q.dst (.int .i64 (Nat.min m d : Nat))) w') : wpList P ops Q (q :: rest) A w := by
  refine wpList_plain hgd fun K hK' => ?_
  obtain ⟨w', hrun, st'⟩ := run_copy_row E q.type s (dc := dc) (cx := cx) hl hp hsrc h1
  unfold Oper.wp
  simp [execOp, hop, resolve, invoke, builtin, hx, hy, hrun, Result.andThen]
  exact hK' _ _ (hK _ st')

/-- 'append(s, make([]T, k)...)' where there is no room. -/
theorem run_append_zeros_st (E : ElemT P t e sz bytes) {tn : TypeId} (htn : P.underlying tn = some (.int .i64)) (ty : TypeId) (s : St W w R) (rd : RdS w sz ao n c cs) {k : Nat} (h0 : 0 < k) (hg : c < n + k) (hb : (n + k) * bytes ≤ 140737488355328) (hm : n + k ≤ maxLen) :
    ∃ g c' w' zs, (Builtin.append_ #[t, tn] ty #[.slice ao n c, .int .i64 k]).run P w = .ok (.slice (some ⟨g, 0, none⟩) (n + k) c') w' ∧ St W w' (row g 0 (cs ++ zs) :: R) ∧ zs.length = (c' - n) * sz ∧ n + k ≤ c' ∧ c' ≤ maxLen := by
  obtain ⟨i, z, hi, hz, hsz, hby, hzs, hzo⟩ := E.info
  have hpos := E.pos
  have hold : (Builtin.firstCells i.size n (.slice ao n c)).run P w.drew = .ok cs.toArray w.drew := by
    rw [hsz]
    cases ao with
    | none =>
      have hc0 := rd.nil rfl
      have hn0 : n = 0 := by have := rd.le; omega
      subst hn0
      have : cs = [] := List.eq_nil_of_length_eq_zero (by simpa using rd.len)
      subst this
      simp [Builtin.firstCells]
    | some a => exact run_firstCells_some (P := P) w.drew sz n a n c cs rd.len (fun j v hj => (rd.cell a rfl j v hj))
  have hk : k * bytes ≤ 140737488355328 := Nat.le_trans (Nat.mul_le_mul_right _ (by omega)) hb
  have h := Lib.run_append_grow_zeros w t tn ty e i z .i64 .i64 E.und htn hi hz ao n c cs hold k h0 (by omega) hg (by unfold maxLen at hm; omega) (by rw [hby]; omega) (by rw [hby]; exact growslice_fits hg hb)
  have hge := grownCap_ge w (n + k) c e
  have hgm := grownCap_le_maxLen w (n + k) c e hm
  refine ⟨w.heap.size, grownCap w (n + k) c e, _, (Builtin.zeroCells z.cells k).toList ++ (Builtin.zeroCells z.cells (grownCap w (n + k) c e - (n + k))).toList, h, ?_, ?_, hge, hgm⟩
  · have s1 := (s.drew).alloc (cs.toArray ++ Builtin.zeroCells z.cells k ++ Builtin.zeroCells z.cells (grownCap w (n + k) c e - (n + k))) e
    have : (cs.toArray ++ Builtin.zeroCells z.cells k ++ Builtin.zeroCells z.cells (grownCap w (n + k) c e - (n + k))).toList = cs ++ ((Builtin.zeroCells z.cells k).toList ++ (Builtin.zeroCells z.cells (grownCap w (n + k) c e - (n + k))).toList) := by simp
    rw [this] at s1
    exact s1
  · rw [List.length_append, Array.length_toList, Array.length_toList, size_zeroCells, size_zeroCells, hzs, ← Nat.add_mul]
    congr 1
    omega

/-- Two owned rows have no cell in common. -/
theorem St.apart {vs us : List Value} {b1 o1 b2 o2 : Nat} (s : St W w (row b1 o1 vs :: row b2 o2 us :: R)) {i j : Nat} (hi : i < vs.length) (hj : j < us.length) : ¬ (b1 = b2 ∧ o1 + i = o2 + j) := by
  rintro ⟨rfl, he⟩
  obtain ⟨_, h, ⟨h1, h2, c, rfl, a, ⟨g1, g2, c', rfl, a', _⟩⟩, _⟩ := s
  have e1 : h1 b1 (o1 + i) = some (.cell vs[i]) := by rw [show h1 = _ from a]; exact rowH_at (List.getElem?_eq_getElem hi)
  have e2 : g1 b1 (o1 + i) = some (.cell us[j]) := by rw [show g1 = _ from a', he]; exact rowH_at (List.getElem?_eq_getElem hj)
  rcases c b1 (o1 + i) with g | g | ⟨v, g, _⟩
  · rw [e1] at g; cases g
  · simp [join, e2] at g
  · rw [e1] at g; cases g

theorem cell_shape {v : Value} (h : w.cell? ⟨b, o, none⟩ = some v) : ∃ t k, w.shape? b = some (t, k) ∧ k ≠ 0 := by
  unfold World.cell? at h
  simp only at h
  cases hb : w.heap[b]? with
  | none => simp [hb] at h
  | some ob =>
    rw [hb] at h
    cases ob with
    | cells c el fr =>
      refine ⟨el, c.size, by simp [World.shape?, hb], fun h0 => ?_⟩
      simp at h
      have : c[o]? = none := by rw [Array.getElem?_eq_none]; omega
      rw [this] at h; cases h
    | _ => simp at h

/-- A new element's block is another one than the slice's. -/
theorem fresh_block {vs us : List Value} {A : Array Value} {vb : Nat} (s : St W w (row b o us :: row vb 0 vs :: R)) (hv : w.heap[vb]? = some (.cells A e (0, 0))) (hl : A.size = vs.length) (hu : 0 < us.length) : vb ≠ b := by
  rintro rfl
  have h := s.rowCell (i := 0) (List.getElem?_eq_getElem hu)
  unfold World.cell? at h
  simp only [hv] at h
  have ho : o < A.size := by
    rcases Nat.lt_or_ge o A.size with g | g
    · exact g
    · rw [Nat.add_zero, Array.getElem?_eq_none g] at h; simp at h
  exact s.apart (i := 0) (j := o) hu (by omega) ⟨rfl, by omega⟩

theorem run_overlaps_no {vs us : List Value} {A : Array Value} {vb : Nat} {tS tR : TypeId} (E : ElemT P tS e sz bytes) (s : St W w (row b o us :: row vb 0 vs :: R)) (hv : w.heap[vb]? = some (.cells A e (0, 0))) (hl : A.size = vs.length) (hu : 0 < us.length) (o' la ca lb cb : Nat) :
    (Extern.SlicesOverlaps.overlaps #[tS, tS] #[tR] #[.slice (some ⟨vb, 0, none⟩) la ca, .slice (some ⟨b, o', none⟩) lb cb]).run P w = .ok (.bool false) w := by
  obtain ⟨i, z, hi, hz, hsz, hby, hzs, hzo⟩ := E.info
  have h := s.rowCell (i := 0) (List.getElem?_eq_getElem hu)
  obtain ⟨tB, kB, hsb, hkB⟩ := cell_shape h
  exact Lib.run_overlaps_apart w tS tR e E.und sz (fun w => by simp [sizeOf, typeInfo, hi, hsz]) ⟨vb, 0, none⟩ ⟨b, o', none⟩ la ca lb cb (fresh_block s hv hl hu) e tB A.size kB (by simp [World.shape?, hv]) hsb hkB (by simp [World.frozen?, hv]) (by simp [World.frozen?, hv])

theorem run_slice_at (E : ElemT P t e sz bytes) (b o n c k : Nat) {n' : Nat} {i : Int} (hik : i = k) (hn : n' + k = n) (hc : c ≠ k) (w : World) :
    (Instr.slice t (.slice (some ⟨b, o, none⟩) n c) (some (.int .i64 i)) none none).run P w = .ok (.slice (some ⟨b, o + k * sz, none⟩) n' (c - k)) w := by
  obtain ⟨ax, cx, ⟨rfl, rfl⟩, h⟩ := run_slice_from E (some ⟨b, o, none⟩) n c k n' hik hn
  rw [h w, if_neg hc, Option.map_some, add_plain']

/-- What Insert makes of the cells, in place. -/
theorem splice_insert {cs sp vs : List Value} {p s : Nat} (hp : p ≤ cs.length) (hv : vs.length = s) (hsp : s ≤ sp.length) : splice (splice (cs ++ sp) (p + s) (cs.drop p)) p vs = (cs.take p ++ vs ++ cs.drop p) ++ sp.drop s := by
  have hd : (cs.drop p).length = cs.length - p := List.length_drop
  have h1 : splice (cs ++ sp) (p + s) (cs.drop p) = (cs ++ sp).take (p + s) ++ (cs.drop p ++ sp.drop s) := by
    unfold splice
    rw [List.append_assoc, hd, show p + s + (cs.length - p) = cs.length + s from by omega, List.drop_append, List.drop_eq_nil_of_le (by omega : cs.length ≤ cs.length + s)]
    simp
  rw [h1]
  unfold splice
  rw [hv, List.take_append, List.drop_append]
  have hl : ((cs ++ sp).take (p + s)).length = p + s := by rw [List.length_take, List.length_append]; omega
  rw [hl, Nat.sub_eq_zero_of_le (by omega : p ≤ p + s), List.take_zero, List.append_nil, Nat.sub_self, List.drop_zero, List.drop_eq_nil_of_le (by omega), List.nil_append, List.take_take, Nat.min_eq_left (by omega : p ≤ p + s), List.take_append_of_le_length hp]
  simp [List.append_assoc]

/-- .. and in a new array. -/
theorem splice_insert2 {cs zs vs : List Value} {p s : Nat} (hp : p ≤ cs.length) (hv : vs.length = s) (_hz : s + (cs.length - p) ≤ zs.length) : splice (splice (cs.take p ++ zs) p vs) (p + s) (cs.drop p) = (cs.take p ++ vs ++ cs.drop p) ++ zs.drop (s + (cs.length - p)) := by
  have hd : (cs.drop p).length = cs.length - p := List.length_drop
  have ht : (cs.take p).length = p := by rw [List.length_take]; omega
  have h1 : splice (cs.take p ++ zs) p vs = cs.take p ++ vs ++ zs.drop s := by
    unfold splice
    rw [hv, List.take_append, List.drop_append, ht, Nat.sub_self, List.take_zero, List.append_nil, List.take_of_length_le (by omega), List.drop_eq_nil_of_le (by omega), List.nil_append, Nat.add_sub_cancel_left]
  rw [h1]
  have hl : (cs.take p ++ vs).length = p + s := by rw [List.length_append, ht, hv]
  have e3 : List.drop (p + s + (cs.length - p)) (cs.take p ++ vs) = [] := List.drop_eq_nil_of_le (by omega)
  have e4 : List.take (p + s) (cs.take p ++ vs) = cs.take p ++ vs := List.take_of_length_le (by omega)
  unfold splice
  rw [hd, List.take_append, List.drop_append, hl, Nat.sub_self, List.take_zero, List.append_nil, e3, e4, List.nil_append, List.drop_drop]
  congr 2
  omega

theorem box3 {B : Nat} {x y z : Value} (s : St W w (row B 0 [x, y, z] :: R)) : w.cell? ⟨B, 0, none⟩ = some x ∧ w.cell? ⟨B, 1, none⟩ = some y ∧ w.cell? ⟨B, 2, none⟩ = some z :=
  ⟨s.rowCell (i := 0) rfl, by have := s.rowCell (i := 1) rfl; rwa [Nat.zero_add] at this, by have := s.rowCell (i := 2) rfl; rwa [Nat.zero_add] at this⟩

theorem St.takeDrop12 {A B C : HP} (s : St W w (A :: B :: C :: R)) : St W w (A :: R) := (St.pick 2 s).dropN 1 |> fun s => (St.pick 1 s).drop

end

end Go.Qd
