/- From the reading of an argument to what the walks ask. -/
import Derived.Test.YtbpdchaeakihkaaGreatSlice
import Derived.ProofKit
import Derived.OpenShut
namespace Go.Qd
open Go.RowKit Go.ChangeShapes Go.WideShapes Go.ChangeAt

theorem wf_range {n : Int} (h : (Lit.int .i64 n).wf = true) : -9223372036854775808 ≤ n ∧ n ≤ 9223372036854775807 := by
  have h1 : IntKind.i64.min = -9223372036854775808 := rfl
  have h2 : IntKind.i64.max = 9223372036854775807 := rfl
  simp only [Lit.wf, Bool.and_eq_true, decide_eq_true_eq] at h
  omega

theorem nat8 {x : Int} (h : (Lit.int .u8 x).wf = true) : ∃ n : Nat, x = n ∧ n ≤ 255 := by
  have h1 : IntKind.u8.min = 0 := rfl
  have h2 : IntKind.u8.max = 255 := rfl
  simp only [Lit.wf, Bool.and_eq_true, decide_eq_true_eq] at h
  exact ⟨x.toNat, by omega, by omega⟩

theorem mapM_some {α β : Type} {f : α → Option β} : ∀ {l : List α} {r : List β}, l.mapM f = some r → r.length = l.length ∧ ∀ i (h : i < l.length), f l[i] = r[i]?
  | [], r, h => by simp at h; subst h; simp
  | a :: l, r, h => by
    simp only [List.mapM_cons, Option.pure_def, Option.bind_eq_bind, Option.bind_eq_some_iff, Option.some.injEq] at h
    obtain ⟨b, hb, s, hs, rfl⟩ := h
    obtain ⟨h1, h2⟩ := mapM_some hs
    refine ⟨by simp [h1], fun i hi => ?_⟩
    cases i with
    | zero => simpa using hb
    | succ i => simpa using h2 i (by simpa using hi)

theorem cells_some {w : World} {base : Nat} {a : Addr} {n : Nat} {cs : List Value} (h : w.cells? base a n = some cs) : cs.length = n ∧ ∀ (i : Nat) u, cs[i]? = some u → w.cell? (a.add i) = some u := by
  unfold World.cells? at h
  split at h
  · obtain ⟨h1, h2⟩ := mapM_some h
    rw [List.length_range] at h1
    refine ⟨h1, fun i u hu => ?_⟩
    have hi : i < cs.length := by
      rcases Nat.lt_or_ge i cs.length with g | g
      · exact g
      · rw [List.getElem?_eq_none g] at hu; cases hu
    have := h2 i (by simpa using (by omega : i < n))
    rw [hu] at this
    simpa using this
  · cases h

/-- A slice that came in: its elements' cells, each as it reads. -/
theorem slice_of_trod {H : Type} {enc : TypeId × Value → H} {P : Program} {W : World} {base : Nat} {sp : Nat → Bool} {held : Bool} {T E : TypeId} {a : Option Addr} {n c sz fuel : Nat} {x : DataW H × List MemPlace}
    (uT : P.underlying T = some (.slice E)) (cE : P.cellsOf E = sz) (hp : 0 < sz) (h : DataW.trod enc P W base sp held fuel T [.slice a n c] = some x)
    (hone : ∀ m cs y, DataW.trod enc P W base sp held m E cs = some y → ∀ u ∈ cs, u.oneCell' = true) :
    ∃ css : List (List Value), css.length = n ∧ (∀ cs ∈ css, cs.length = sz) ∧ RdS W sz a n c css.flatten ∧ ∀ cs ∈ css, ∃ m y, DataW.trod enc P W base sp held m E cs = some y := by
  rcases DataW.trod_slice uT h with ⟨hcs, _⟩ | ⟨b, l, cc, elems, rest, m, _, hcs, _, _, hl, hm, hlen, hel, _⟩
  · simp at hcs
    obtain ⟨rfl, rfl, rfl⟩ := hcs
    exact ⟨[], rfl, fun _ h => (by cases h), RdS.none0 _ _, fun _ h => (by cases h)⟩
  · simp at hcs
    obtain ⟨rfl, rfl, rfl⟩ := hcs
    rw [cE] at hel
    have each : ∀ i, i < n → ∃ cs, W.cells? base (b.add (i * sz)) sz = some cs ∧ ∃ y, DataW.trod enc P W base sp held m E cs = some y := by
      intro i hi
      have := hel i hi
      rw [List.getElem?_eq_getElem (by omega), Option.bind_eq_some_iff] at this
      obtain ⟨cs, h1, h2⟩ := this
      exact ⟨cs, h1, _, h2⟩
    let f : Nat → List Value := fun i => (W.cells? base (b.add (i * sz)) sz).getD []
    have hf : ∀ i, i < n → W.cells? base (b.add (i * sz)) sz = some (f i) ∧ ∃ y, DataW.trod enc P W base sp held m E (f i) = some y := by
      intro i hi
      obtain ⟨cs, h1, h2⟩ := each i hi
      have : f i = cs := by show (W.cells? base (b.add (i * sz)) sz).getD [] = cs; rw [h1]; rfl
      rw [this]
      exact ⟨h1, h2⟩
    have hlens : ∀ cs ∈ (List.range n).map f, cs.length = sz := by
      intro cs hc
      obtain ⟨i, hi, rfl⟩ := List.mem_map.1 hc
      exact (cells_some (hf i (List.mem_range.1 hi)).1).1
    have key : ∀ k, k ≤ n → (((List.range k).map f).flatten.length = k * sz ∧ ∀ i u, ((List.range k).map f).flatten[i]? = some u → W.cell? (b.add i) = some u) := by
      intro k
      induction k with
      | zero => intro _; simp
      | succ k ih =>
        intro hk
        obtain ⟨h1, h2⟩ := ih (by omega)
        obtain ⟨g1, g2⟩ := cells_some (hf k (by omega)).1
        rw [List.range_succ, List.map_append, List.flatten_append]
        refine ⟨by rw [List.length_append, h1]; simp [g1, Nat.add_mul], fun i u hu => ?_⟩
        by_cases hi : i < k * sz
        · rw [List.getElem?_append_left (by omega)] at hu
          exact h2 i u hu
        · rw [List.getElem?_append_right (by omega), h1] at hu
          have hz : b.spot = none := by
            rcases Nat.eq_zero_or_pos k with g | g
            · subst g
              have hf0 := g2 0
              have : ∃ u0, (f 0)[0]? = some u0 := by
                have : 0 < (f 0).length := by omega
                exact ⟨_, List.getElem?_eq_getElem this⟩
              obtain ⟨u0, hu0⟩ := this
              have := World.cell?_spot (hf0 u0 hu0)
              simpa [Addr.add] using this
            · have : ∃ u0, ((List.range k).map f).flatten[0]? = some u0 := by
                have : 0 < ((List.range k).map f).flatten.length := by rw [h1]; exact Nat.mul_pos g hp
                exact ⟨_, List.getElem?_eq_getElem this⟩
              obtain ⟨u0, hu0⟩ := this
              have := World.cell?_spot (h2 0 u0 hu0)
              simpa [Addr.add] using this
          have := g2 (i - k * sz) u (by simpa using hu)
          obtain ⟨bb, bo, bs⟩ := b
          simp only at hz
          subst hz
          rw [add_plain', add_plain'] at this
          rw [add_plain']
          rwa [show bo + k * sz + (i - k * sz) = bo + i from by omega] at this
    obtain ⟨k1, k2⟩ := key n (Nat.le_refl _)
    refine ⟨(List.range n).map f, by simp, hlens, ⟨k1, hl, hm, by simp, fun hn => ?_, fun a ha i u hu => ?_, fun u hu => ?_⟩, fun cs hc => ?_⟩
    · have : ∃ u0, ((List.range n).map f).flatten[0]? = some u0 := by
        have : 0 < ((List.range n).map f).flatten.length := by rw [k1]; exact Nat.mul_pos hn hp
        exact ⟨_, List.getElem?_eq_getElem this⟩
      obtain ⟨u0, hu0⟩ := this
      have := World.cell?_spot (k2 0 u0 hu0)
      obtain ⟨bb, bo, bs⟩ := b
      have : bs = none := by simpa [Addr.add] using this
      subst this
      exact ⟨bb, bo, rfl⟩
    · cases ha; exact k2 i u hu
    · obtain ⟨cs, hc, hu'⟩ := List.mem_flatten.1 hu
      obtain ⟨i, hi, rfl⟩ := List.mem_map.1 hc
      obtain ⟨_, y, hy⟩ := hf i (List.mem_range.1 hi)
      exact hone _ _ _ hy u hu'
    · obtain ⟨i, hi, rfl⟩ := List.mem_map.1 hc
      exact ⟨m, (hf i (List.mem_range.1 hi)).2⟩

theorem flat_get {α : Type} {sz : Nat} : ∀ {css : List (List α)} (_ : ∀ cs ∈ css, cs.length = sz) {i : Nat} (hi : i < css.length) {j : Nat} (_ : j < sz), css.flatten[i * sz + j]? = css[i][j]?
  | [], _, i, hi, _, _ => by simp at hi
  | cs :: css, h, i, hi, j, hj => by
    have h0 := h cs (by simp)
    cases i with
    | zero => simp only [List.flatten_cons, Nat.zero_mul, Nat.zero_add, List.getElem_cons_zero]; rw [List.getElem?_append_left (by omega)]
    | succ i =>
      have := flat_get (css := css) (fun c hc => h c (by simp [hc])) (i := i) (by simpa using hi) hj
      rw [List.flatten_cons, List.getElem?_append_right (by rw [h0, Nat.add_mul]; omega), List.getElem_cons_succ, ← this]
      congr 1
      rw [h0, Nat.add_mul]; omega

/-- A slice of bytes that came in. -/
theorem u8s_of_trod' {H : Type} {enc : TypeId × Value → H} {P : Program} {W : World} {base : Nat} {sp : Nat → Bool} {held : Bool} {T E : TypeId} {a : Option Addr} {n c fuel : Nat} {x : DataW H × List MemPlace}
    (uT : P.underlying T = some (.slice E)) (uE : P.underlying E = some (.int .u8)) (cE : P.cellsOf E = 1) (h : DataW.trod enc P W base sp held fuel T [.slice a n c] = some x) :
    ∃ zs : List Int, RdS W 1 a n c (zs.map (Value.int .u8)) := by
  obtain ⟨css, h1, h2, h3, h4⟩ := slice_of_trod uT cE (by decide) h (fun m cs y hy u hu => by
    obtain ⟨z, rfl, _⟩ := DataW.trod_int uE hy
    simp at hu; subst hu; rfl)
  have : ∀ css : List (List Value), (∀ cs ∈ css, ∃ m y, DataW.trod enc P W base sp held m E cs = some y) → ∃ zs : List Int, css.flatten = zs.map (Value.int .u8) := by
    intro css
    induction css with
    | nil => intro _; exact ⟨[], rfl⟩
    | cons cs css ih =>
      intro hh
      obtain ⟨m, y, hy⟩ := hh cs (by simp)
      obtain ⟨z, rfl, _⟩ := DataW.trod_int uE hy
      obtain ⟨zs, e⟩ := ih (fun c hc => hh c (by simp [hc]))
      exact ⟨z :: zs, by simp [e]⟩
  obtain ⟨zs, e⟩ := this css h4
  exact ⟨zs, e ▸ h3⟩

theorem int_cells {H : Type} {enc : TypeId × Value → H} {P : Program} {W : World} {base : Nat} {sp : Nat → Bool} {held : Bool} {E : TypeId} {m : Nat} {cs : List Value} {y : DataW H × List MemPlace}
    (uE : P.underlying E = some (.int .i64)) (h : DataW.trod enc P W base sp held m E cs = some y) : ∃ z : Int, cs = [iv z] ∧ -9223372036854775808 ≤ z ∧ z ≤ 9223372036854775807 := by
  obtain ⟨z, rfl, rfl, hw⟩ := DataW.trod_int uE h
  exact ⟨z, rfl, wf_range hw⟩

/-- A slice of int that came in. -/
theorem ints_of_trod' {H : Type} {enc : TypeId × Value → H} {P : Program} {W : World} {base : Nat} {sp : Nat → Bool} {held : Bool} {T E : TypeId} {a : Option Addr} {n c fuel : Nat} {x : DataW H × List MemPlace}
    (uT : P.underlying T = some (.slice E)) (uE : P.underlying E = some (.int .i64)) (cE : P.cellsOf E = 1) (h : DataW.trod enc P W base sp held fuel T [.slice a n c] = some x) :
    ∃ zs, RdS W 1 a n c (ivs zs) ∧ ∀ z ∈ zs, -9223372036854775808 ≤ z ∧ z ≤ 9223372036854775807 := by
  obtain ⟨css, h1, h2, h3, h4⟩ := slice_of_trod uT cE (by decide) h (fun m cs y hy u hu => by
    obtain ⟨z, rfl, _⟩ := int_cells uE hy
    simp at hu; subst hu; rfl)
  have : ∀ css : List (List Value), (∀ cs ∈ css, ∃ m y, DataW.trod enc P W base sp held m E cs = some y) → ∃ zs, css.flatten = ivs zs ∧ ∀ z ∈ zs, -9223372036854775808 ≤ z ∧ z ≤ 9223372036854775807 := by
    intro css
    induction css with
    | nil => intro _; exact ⟨[], rfl, fun _ h => (by cases h)⟩
    | cons cs css ih =>
      intro hh
      obtain ⟨m, y, hy⟩ := hh cs (by simp)
      obtain ⟨z, rfl, hz⟩ := int_cells uE hy
      obtain ⟨zs, e, hzs⟩ := ih (fun c hc => hh c (by simp [hc]))
      refine ⟨z :: zs, by simp [ivs, e], fun u hu => ?_⟩
      rcases List.mem_cons.1 hu with rfl | hu
      · exact hz
      · exact hzs u hu
  obtain ⟨zs, e, hz⟩ := this css h4
  rw [e] at h3
  exact ⟨zs, h3, hz⟩

theorem ints_of_trod {H : Type} {enc : TypeId × Value → H} {P : Program} {W : World} {base : Nat} {sp : Nat → Bool} {held : Bool} {T E : TypeId} {a : Option Addr} {n c : Nat} {d : DataW H} {p : List MemPlace}
    (uT : P.underlying T = some (.slice E)) (uE : P.underlying E = some (.int .i64)) (cE : P.cellsOf E = 1) (h : DataW.Trod enc P W base sp held T (.slice a n c) d p) :
    ∃ zs, RdS W 1 a n c (ivs zs) ∧ ∀ z ∈ zs, -9223372036854775808 ≤ z ∧ z ≤ 9223372036854775807 := by
  obtain ⟨fuel, hf⟩ := h
  exact ints_of_trod' uT uE cE (by simpa [Value.cells] using hf)

end Go.Qd
