/- NetOrder: what came in; the parcels in order; a string of bytes. -/
import Derived.Test.YtnibgchgcggfbabNetS
import Derived.Test.YtnibgchgcggfbabFrame
namespace Go.Proofs.Ytnibgchgcggfbab
open Go.RowKit Go.Qd Go.ChangeShapes Go.WideShapes Go.ChangeAt

/-- A slice of bytes that came in. -/
structure BV where
  a : Option Addr
  n : Nat
  c : Nat
  bs : List Int
def BV.ok (W : World) (x : BV) : Prop := RdS W 1 x.a x.n x.c (bvs x.bs)
def BV.val (x : BV) : Value := .slice x.a x.n x.c
def bcells (l : List BV) : List Value := l.map BV.val

theorem bytes_of_trod' {H : Type} {enc : TypeId × Value → H} {W : World} {base : Nat} {sp : Nat → Bool} {held : Bool} {a : Option Addr} {n c fuel : Nat} {x : DataW H × List MemPlace}
    (h : DataW.trod enc Try.prog W base sp held fuel 28 [.slice a n c] = some x) : ∃ bs, RdS W 1 a n c (bvs bs) := by
  obtain ⟨css, h1, h2, h3, h4⟩ := slice_of_trod Try.underlying28 (by kernel_rfl : Try.prog.cellsOf 5 = 1) (by decide) h (fun m cs y hy u hu => by
    obtain ⟨z, rfl, _⟩ := DataW.trod_int Try.underlying5 hy
    simp at hu; subst hu; rfl)
  have : ∀ css : List (List Value), (∀ cs ∈ css, ∃ m y, DataW.trod enc Try.prog W base sp held m 5 cs = some y) → ∃ bs, css.flatten = bvs bs := by
    intro css
    induction css with
    | nil => intro _; exact ⟨[], rfl⟩
    | cons cs css ih =>
      intro hh
      obtain ⟨m, y, hy⟩ := hh cs (by simp)
      obtain ⟨z, rfl, _⟩ := DataW.trod_int Try.underlying5 hy
      obtain ⟨bs, e⟩ := ih (fun c hc => hh c (by simp [hc]))
      exact ⟨z :: bs, by simp [bvs, e]⟩
  obtain ⟨bs, e⟩ := this css h4
  exact ⟨bs, e ▸ h3⟩

theorem bytesl_of_trod {H : Type} {enc : TypeId × Value → H} {W : World} {base : Nat} {sp : Nat → Bool} {a : Option Addr} {n c : Nat} {d : DataW H} {p : List MemPlace}
    (h : DataW.Trod enc Try.prog W base sp true 22 (.slice a n c) d p) : ∃ l : List BV, RdS W 1 a n c (bcells l) ∧ ∀ x ∈ l, x.ok W := by
  obtain ⟨fuel, hf⟩ := h
  have one : ∀ m cs y, DataW.trod enc Try.prog W base sp true m 28 cs = some y → ∃ x : BV, cs = [x.val] ∧ x.ok W := by
    intro m cs y hy
    obtain ⟨a, n, c, rfl⟩ : ∃ a n c, cs = [.slice a n c] := by
      rcases DataW.trod_slice Try.underlying28 hy with ⟨hc, _⟩ | ⟨b, l, cc, _, _, _, _, hc, _⟩
      · exact ⟨_, _, _, hc⟩
      · exact ⟨_, _, _, hc⟩
    obtain ⟨bs, r⟩ := bytes_of_trod' hy
    exact ⟨⟨a, n, c, bs⟩, rfl, r⟩
  have hf' : DataW.trod enc Try.prog W base sp true fuel 22 [.slice a n c] = some (d, p) := by simpa [Value.cells] using hf
  obtain ⟨css, h1, h2, h3, h4⟩ := slice_of_trod Try.underlying22 (by kernel_rfl : Try.prog.cellsOf 28 = 1) (by decide) hf' (fun m cs y hy u hu => by
    obtain ⟨x, rfl, _⟩ := one _ _ _ hy
    simp at hu; subst hu; rfl)
  have : ∀ css : List (List Value), (∀ cs ∈ css, ∃ m y, DataW.trod enc Try.prog W base sp true m 28 cs = some y) → ∃ l : List BV, css.flatten = bcells l ∧ ∀ x ∈ l, x.ok W := by
    intro css
    induction css with
    | nil => intro _; exact ⟨[], rfl, fun _ h => (by cases h)⟩
    | cons cs css ih =>
      intro hh
      obtain ⟨m, y, hy⟩ := hh cs (by simp)
      obtain ⟨x, rfl, hx⟩ := one _ _ _ hy
      obtain ⟨l, e, hl⟩ := ih (fun c hc => hh c (by simp [hc]))
      refine ⟨x :: l, by simp [bcells, e], fun u hu => ?_⟩
      rcases List.mem_cons.1 hu with rfl | hu
      · exact hx
      · exact hl u hu
  obtain ⟨l, e, hl⟩ := this css h4
  exact ⟨l, e ▸ h3, hl⟩

theorem bcells_len {w : World} {a : Option Addr} {n c : Nat} {l : List BV} (h : RdS w 1 a n c (bcells l)) : l.length = n := by have := h.len; simpa [bcells] using this
theorem bcells_get {l : List BV} {i : Nat} (h : i < l.length) : (bcells l)[i]? = some l[i].val := by simp [bcells, h]

def bstr (bs : List Int) : ByteArray := bs.foldl (fun r n => r.push (UInt8.ofNat n.toNat)) ByteArray.empty

/-- 'string(b)'. -/
theorem run_str {w : World} {a : Option Addr} {n c : Nat} {bs : List Int} (h : RdS w 1 a n c (bvs bs)) : (convert 28 9 (.slice a n c)).run Try.prog w = .ok (.string (bstr bs)) w := by
  rw [run_convert_bytes_string w 28 9 5 a n c Try.underlying28 Try.underlying5 Try.underlying9]
  have hl := bvs_len h
  cases a with
  | none =>
    have hc := h.nil rfl
    have hn : n = 0 := by have := h.le; omega
    subst hc; subst hn
    have : bs = [] := List.eq_nil_of_length_eq_zero hl
    subst this
    rfl
  | some x =>
    have h1 := run_loadCells_list (P := Try.prog) w x (bvs bs) (fun j u hj => h.cell x rfl j u hj)
    have hlen : (bvs bs).length = n := by simp [bvs, hl]
    rw [hlen] at h1
    exact run_bytesToString w x n c bs h1

/-- The parcels that are on their way behind i sends. -/
def SentAt (l : List BV) (i : Nat) (ps : List PV) : Prop := ps.length = i ∧ ∀ j (h : j < ps.length), ps[j].f = (j : Int) % 2 ∧ ps[j].t = 2 ∧ ps[j].n ≤ 100 ∧ ∃ h' : j < l.length, ps[j].bs = l[j].bs

theorem SentAt.start (l : List BV) : SentAt l 0 [] := ⟨rfl, fun _ h => by simp at h⟩
theorem SentAt.step {l : List BV} {i : Nat} {ps : List PV} (h : SentAt l i ps) (hi : i < l.length) {a : Option Addr} {n c : Nat} (hn : n ≤ 100) {sp : Bool} : SentAt l (i + 1) (ps ++ [⟨(i : Int) % 2, 2, a, n, c, l[i].bs, sp⟩]) := by
  refine ⟨by simp [h.1], fun j hj => ?_⟩
  by_cases hlt : j < ps.length
  · rw [List.getElem_append_left hlt]; exact h.2 j hlt
  · have hji : j = i := by simp at hj; have := h.1; omega
    subst hji
    rw [List.getElem_append_right (by omega)]
    have h0 : j - ps.length = 0 := by have := h.1; omega
    simp [h0]
    exact ⟨hn, hi⟩

/-- All that is on its way, the copy behind the others. -/
def AllAt (l : List BV) (k : Nat) (ps : List PV) : Prop := ps.length = l.length + 1 ∧ ∀ j (h : j < ps.length), ps[j].t = 2 ∧ (j < l.length → ps[j].f = (j : Int) % 2) ∧ (j = l.length → ps[j].f = (k : Int) % 2) ∧ ∃ h' : j < (l ++ [l.getD k ⟨none, 0, 0, []⟩]).length, ps[j].bs = (l ++ [l.getD k ⟨none, 0, 0, []⟩])[j].bs

theorem SentAt.all {l : List BV} {ps : List PV} (h : SentAt l l.length ps) {k : Nat} (hk : k < ps.length) (a : Option Addr) (c : Nat) : AllAt l k (ps ++ [{ ps[k] with a := a, c := c }]) := by
  have hl := h.1
  refine ⟨by simp [hl], fun j hj => ?_⟩
  by_cases hlt : j < ps.length
  · rw [List.getElem_append_left hlt]
    obtain ⟨h1, h2, _, h4, h5⟩ := h.2 j hlt
    exact ⟨h2, fun _ => h1, fun e => by omega, by simp; omega, by rw [h5, List.getElem_append_left h4]⟩
  · have hji : j = l.length := by simp at hj; omega
    subst hji
    rw [List.getElem_append_right (by omega)]
    obtain ⟨h1, h2, _, h4, h5⟩ := h.2 k hk
    have h0 : l.length - ps.length = 0 := by omega
    simp only [h0, List.getElem_cons_zero]
    refine ⟨h2, fun e => absurd e (by omega), fun _ => h1, by simp, ?_⟩
    rw [h5, List.getElem_append_right (by omega)]
    simp [List.getD, h4]

end Go.Proofs.Ytnibgchgcggfbab
