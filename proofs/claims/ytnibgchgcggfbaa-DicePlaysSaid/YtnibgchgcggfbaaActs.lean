/- The acts that came in, as cells; 'few'. -/
import Derived.Test.YtnibgchgcggfbaaDiceC
import Derived.Test.YtnibgchgcggfbaaFrame
namespace Go.Proofs.Ytnibgchgcggfbaa
open Go.RowKit Go.Qd Go.ChangeShapes Go.WideShapes Go.ChangeAt

structure ActV where
  kind : Int
  n : Int
  a : Option Addr
  m : Nat
  c : Nat
  L : List Int

def ActV.cells (x : ActV) : List Value := [.int .i64 x.kind, .int .i64 x.n, .slice x.a x.m x.c]
def ActV.ok (W : World) (x : ActV) : Prop := RdS W 1 x.a x.m x.c (ivs x.L)

theorem Try.elem34 : ElemT Try.prog 34 37 3 40 := ElemT.mk' Try.underlying34 (by kernel_rfl : (Try.prog.info? 37).map (fun i => (i.zero, i.size, i.bytes)) = some (some (.agg #[.int .i64 0, .int .i64 0, .slice none 0 0]), 3, 40)) rfl (by decide) (by simp [Value.cells, Value.oneCell'])

theorem flat_get {α : Type} {sz : Nat} : ∀ {css : List (List α)} (_ : ∀ cs ∈ css, cs.length = sz) {i : Nat} (hi : i < css.length) {j : Nat} (_ : j < sz), css.flatten[i * sz + j]? = css[i][j]?
  | [], _, i, hi, _, _ => by simp at hi
  | cs :: css, h, i, hi, j, hj => by
    have h0 := h cs (by simp)
    cases i with
    | zero => simp only [List.flatten_cons, Nat.zero_mul, Nat.zero_add, List.getElem_cons_zero]; rw [List.getElem?_append_left (by omega)]
    | succ i =>
      have := flat_get (css := css) (fun c hc => h c (by simp [hc])) (i := i) (by simpa using hi) hj
      rw [List.flatten_cons, List.getElem?_append_right (by rw [h0, Nat.add_mul]; omega), List.getElem_cons_succ, ← this]
      congr 1
      rw [h0, Nat.add_mul]; omega

def actCells (l : List ActV) : List Value := (l.map ActV.cells).flatten

theorem take_all {α : Type} {p : α → Bool} {l : List α} {i : Nat} (h : i < l.length) : (l.take (i + 1)).all p = ((l.take i).all p && p l[i]) := by
  rw [List.take_succ_eq_append_getElem h, List.all_append]; simp only [List.all_cons, List.all_nil, Bool.and_true]

theorem actCells_get {l : List ActV} {i : Nat} (hi : i < l.length) {j : Nat} (hj : j < 3) : (actCells l)[i * 3 + j]? = l[i].cells[j]? := by
  unfold actCells
  rw [flat_get (sz := 3) (by intro cs hc; obtain ⟨x, _, rfl⟩ := List.mem_map.1 hc; rfl) (by simpa using hi) hj, List.getElem_map]

theorem actCells_len {w : World} {a : Option Addr} {n c : Nat} {l : List ActV} (h : RdS w 3 a n c (actCells l)) : l.length = n := by
  have h1 := h.len
  have : ∀ l : List ActV, (actCells l).length = l.length * 3 := by
    intro l
    induction l with
    | nil => rfl
    | cons x l ih => show (x.cells ++ actCells l).length = _; rw [List.length_append, ih, List.length_cons]; simp [ActV.cells]; omega
  rw [this] at h1
  omega

/-- A slice of acts that came in. -/
theorem acts_of_trod {H : Type} {enc : TypeId × Value → H} {W : World} {base : Nat} {sp : Nat → Bool} {a : Option Addr} {n c : Nat} {d : DataW H} {p : List MemPlace}
    (h : DataW.Trod enc Try.prog W base sp true 34 (.slice a n c) d p) : ∃ l : List ActV, RdS W 3 a n c (actCells l) ∧ ∀ x ∈ l, x.ok W := by
  obtain ⟨fuel, hf⟩ := h
  have one : ∀ m cs y, DataW.trod enc Try.prog W base sp true m 37 cs = some y → ∃ x : ActV, cs = x.cells ∧ x.ok W := by
    intro m cs y hy
    obtain ⟨xs, k, rfl, rfl, hl, hx, hfs⟩ := DataW.trod_struct Try.underlying37 hy
    have c3 : Try.prog.cellsOf 3 = 1 := by kernel_rfl
    have c22 : Try.prog.cellsOf 22 = 1 := by kernel_rfl
    have c37 : Try.prog.cellsOf 37 = 3 := by kernel_rfl
    rw [c37] at hl
    match cs, hl with
    | [u0, u1, u2], _ =>
      have hx' : xs.length = 3 := hx
      have h0 : DataW.trod enc Try.prog W base sp true k 3 (([u0, u1, u2].drop 0).take (Try.prog.cellsOf 3)) = xs[0]? := hfs 0 _ rfl
      have h1 : DataW.trod enc Try.prog W base sp true k 3 (([u0, u1, u2].drop 1).take (Try.prog.cellsOf 3)) = xs[1]? := hfs 1 _ rfl
      have h2 : DataW.trod enc Try.prog W base sp true k 22 (([u0, u1, u2].drop 2).take (Try.prog.cellsOf 22)) = xs[2]? := hfs 2 _ rfl
      rw [List.getElem?_eq_getElem (by omega)] at h0 h1 h2
      simp only [c3, c22, List.drop_zero, List.drop_succ_cons, List.take_succ_cons, List.take_zero] at h0 h1 h2
      obtain ⟨z0, e0, _⟩ := int_cells Try.underlying3 h0
      obtain ⟨z1, e1, _⟩ := int_cells Try.underlying3 h1
      obtain ⟨a, n, c, e2⟩ : ∃ a n c, u2 = .slice a n c := by
        rcases DataW.trod_slice Try.underlying22 h2 with ⟨hc, _⟩ | ⟨b, l, cc, _, _, _, _, hc, _⟩
        · simp at hc; exact ⟨_, _, _, hc⟩
        · simp at hc; exact ⟨_, _, _, hc⟩
      simp at e0 e1
      subst e0 e1 e2
      obtain ⟨zs, r, _⟩ := ints_of_trod' Try.underlying22 Try.underlying3 c3 h2
      exact ⟨⟨z0, z1, a, n, c, zs⟩, rfl, r⟩
  have hf' : DataW.trod enc Try.prog W base sp true fuel 34 [.slice a n c] = some (d, p) := by simpa [Value.cells] using hf
  obtain ⟨css, h1, h2, h3, h4⟩ := slice_of_trod Try.underlying34 (by kernel_rfl : Try.prog.cellsOf 37 = 3) (by decide) hf' (fun m cs y hy u hu => by
    obtain ⟨x, rfl, _⟩ := one _ _ _ hy
    simp [ActV.cells] at hu
    rcases hu with rfl | rfl | rfl <;> rfl)
  have : ∀ css : List (List Value), (∀ cs ∈ css, ∃ m y, DataW.trod enc Try.prog W base sp true m 37 cs = some y) → ∃ l : List ActV, css.flatten = actCells l ∧ ∀ x ∈ l, x.ok W := by
    intro css
    induction css with
    | nil => intro _; exact ⟨[], rfl, fun _ h => (by cases h)⟩
    | cons cs css ih =>
      intro hh
      obtain ⟨m, y, hy⟩ := hh cs (by simp)
      obtain ⟨x, rfl, hx⟩ := one _ _ _ hy
      obtain ⟨l, e, hl⟩ := ih (fun c hc => hh c (by simp [hc]))
      refine ⟨x :: l, by rw [List.flatten_cons, e]; rfl, fun u hu => ?_⟩
      rcases List.mem_cons.1 hu with rfl | hu
      · exact hx
      · exact hl u hu
  obtain ⟨l, e, hl⟩ := this css h4
  rw [e] at h3
  exact ⟨l, h3, hl⟩

def fewB (l : List ActV) : Bool := l.all (fun x => decide (x.m ≤ 30)) && decide (l.length ≤ 40)

set_option maxHeartbeats 400000 in
theorem few_c {W w : World} {R : List HP} {post : Ending → World → Prop} {ao : Option Addr} {n c : Nat} {l : List ActV} (st : St W w R) (rd : RdS W 3 ao n c (actCells l))
    (K : ∀ w', St W w' R → post (.returned (.bool (fewB l))) w') : Calls Try.prog 14 #[.slice ao n c] w post := by
  have HK := hid K; clear K
  have hl := hid (actCells_len rd)
  have hbig := rd.big
  go_enter Try.func14, Try.ntmps14
  go_wp2_with fail
  go_loopw [7] (fun ii wr => ∃ k : Nat, k ≤ n ∧ ii = .int .i64 k ∧ Hid ((l.take k).all (fun x => decide (x.m ≤ 30)) = true) ∧ St W wr R) (fun ii _ => n - (intOf ii).toNat)
  case atStart => exact ⟨0, Nat.zero_le _, rfl, hid rfl, st⟩
  case round =>
    obtain ⟨k, hk, rfl, hh, sr⟩ := hrel
    by_cases hlt : k < n
    · obtain ⟨g, o, rfl⟩ := rd.addr (by omega)
      have hkl : k < l.length := by rw [hl.out]; exact hlt
      have hc0 := (rd.st sr).at (i := k * 3) (u := .int .i64 l[k].kind) (by have := actCells_get hkl (j := 0) (by decide); rw [Nat.add_zero] at this; rw [this]; rfl)
      have hc1 := (rd.st sr).at2 (i := k * 3) (j := 1) (u := .int .i64 l[k].n) (by rw [actCells_get hkl (j := 1) (by decide)]; rfl)
      have hc2 := (rd.st sr).at2 (i := k * 3) (j := 2) (u := .slice l[k].a l[k].m l[k].c) (by rw [actCells_get hkl (j := 2) (by decide)]; rfl)
      have hs := take_all (p := fun x : ActV => decide (x.m ≤ 30)) hkl
      obtain ⟨x, hx⟩ : ∃ x, l[k] = x := ⟨_, rfl⟩
      rw [hx] at hc0 hc1 hc2 hs
      have HX := hid hx; have HS := hid hs; clear hx hs
      by_cases h30 : x.m ≤ 30
      · have hs2 := hid (show (l.take (k + 1)).all (fun x => decide (x.m ≤ 30)) = true by rw [HS.out, hh.out]; simpa using h30)
        go_wp2
        go_roundw
        case rel => exact ⟨k + 1, by omega, by go_num, hs2, (sr.alloc _ _).drop⟩
        case measure => simp [intOf]; omega
      · have hb : fewB l = false := by
          unfold fewB
          rw [Bool.and_eq_false_iff]
          refine .inl ?_
          rw [List.all_eq_false]
          exact ⟨l[k], List.getElem_mem hkl, by rw [HX.out]; simpa using h30⟩
        rw [hb] at HK
        clear hb
        go_wp2
        exact HK.out _ (sr.alloc _ _).drop
    · have hkn : k = n := by omega
      subst hkn
      have hb : fewB l = decide ((k : Int) ≤ 40) := by
        unfold fewB
        have := hh.out
        rw [List.take_of_length_le (by rw [hl.out]; exact Nat.le_refl _)] at this
        rw [this, Bool.true_and, hl.out]
        rw [Bool.eq_iff_iff]; simp; omega
      rw [hb] at HK
      clear hb
      go_wp2
      exact HK.out _ sr

end Go.Proofs.Ytnibgchgcggfbaa
