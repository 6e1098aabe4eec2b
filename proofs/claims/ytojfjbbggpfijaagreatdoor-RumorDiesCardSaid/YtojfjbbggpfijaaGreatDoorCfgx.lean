/- Cfgx: several texts, joined. Readings of arguments: slices of whatever is read element by element. -/
import Derived.Test.YtojfjbbggpfijaaGreatDoorLib
import Derived.WalkKit
import Derived.WideKeyArr2
namespace Go.Qd
open Go.RowKit Go.ChangeShapes Go.WideShapes Go.ChangeAt

theorem slice_cells {α H : Type} {enc : TypeId × Value → H} {P : Program} {W : World} {base : Nat} {sp : Nat → Bool} {held : Bool} {T E : TypeId} {a : Option Addr} {n c sz fuel : Nat} {x : DataW H × List MemPlace}
    (f : α → List Value) (Q : α → Prop) (one1 : ∀ x, ∀ u ∈ f x, u.oneCell' = true) (hsz : 0 < sz) (uT : P.underlying T = some (.slice E)) (cE : P.cellsOf E = sz)
    (one : ∀ m cs y, DataW.trod enc P W base sp held m E cs = some y → ∃ x, cs = f x ∧ Q x) (h : DataW.trod enc P W base sp held fuel T [.slice a n c] = some x) :
    ∃ l : List α, RdS W sz a n c ((l.map f).flatten) ∧ ∀ x ∈ l, Q x := by
  obtain ⟨css, h1, h2, h3, h4⟩ := slice_of_trod uT cE hsz h (fun m cs y hy u hu => by
    obtain ⟨x, rfl, _⟩ := one _ _ _ hy
    exact one1 x u hu)
  have : ∀ css : List (List Value), (∀ cs ∈ css, ∃ m y, DataW.trod enc P W base sp held m E cs = some y) → ∃ l : List α, css.flatten = (l.map f).flatten ∧ ∀ x ∈ l, Q x := by
    intro css
    induction css with
    | nil => intro _; exact ⟨[], rfl, fun _ h => (by cases h)⟩
    | cons cs css ih =>
      intro hh
      obtain ⟨m, y, hy⟩ := hh cs (by simp)
      obtain ⟨x, rfl, hx⟩ := one _ _ _ hy
      obtain ⟨l, e, hl⟩ := ih (fun c hc => hh c (by simp [hc]))
      refine ⟨x :: l, by rw [List.flatten_cons, e]; rfl, fun u hu => ?_⟩
      rcases List.mem_cons.1 hu with rfl | hu
      · exact hx
      · exact hl u hu
  obtain ⟨l, e, hl⟩ := this css h4
  rw [e] at h3
  exact ⟨l, h3, hl⟩

end Go.Qd

/- A configuration that came in: an array of numbers. -/
namespace Go.Qd
open Go.RowKit Go.WideShapes Go.ChangeShapes

theorem mapM_all {α β : Type} {f : α → Option β} : ∀ {L : List α} {xs : List β}, L.mapM f = some xs → ∀ i ∈ L, ∃ y, f i = some y
  | [], _, _, i, hi => by cases hi
  | a :: L, xs, h, i, hi => by
    rw [List.mapM_cons] at h
    simp only [bind, Option.bind_eq_some_iff, pure, Option.some.injEq] at h
    obtain ⟨y, hy, ys, hys, _⟩ := h
    rcases List.mem_cons.1 hi with rfl | hi
    · exact ⟨y, hy⟩
    · exact mapM_all hys i hi

section
variable {H : Type} {enc : TypeId × Value → H} {P : Program} {k e : TypeId} {n : Nat} {q : IntKind} {W : World} {base : Nat} {sp : Nat → Bool} {held : Bool}

/-- An array of ints that came in. -/
theorem arr_of_trod {r : Reach} {b0 : Nat} {v : Value} {d : DataW H} {ps : List MemPlace} (hu : P.underlying k = some (.array n e)) (he : P.underlying e = some (.int .i64)) (h1 : P.cellsOf e = 1) (hn : P.cellsOf k = n)
    (hval : Value.okWide P W r b0 k v) (hd : DataW.Trod enc P W base sp held k v d ps) : ∃ z : List Int, v = .agg (ivs z).toArray ∧ z.length = n := by
  simp only [Value.okWide, hu] at hval
  obtain ⟨cs, rfl, h2, _⟩ := hval
  rw [hn] at h2
  obtain ⟨fuel, hf⟩ := hd
  cases fuel with
  | zero => simp [DataW.trod] at hf
  | succ m =>
    rw [DataW.trod_step] at hf
    unfold DataW.trodStep at hf
    simp only [hu, Value.cells] at hf
    rw [if_pos (by rw [hn]; simpa using h2)] at hf
    simp only [Option.map_eq_some_iff] at hf
    obtain ⟨ys, hy, _⟩ := hf
    have hall : ∀ i, i < n → ∃ a, cs.toList[i]? = some (.int .i64 a) := by
      intro i hi
      obtain ⟨y, hy1⟩ := mapM_all hy i (List.mem_range.2 hi)
      obtain ⟨a, ea, _, _⟩ := DataW.trod_int he hy1
      refine ⟨a, ?_⟩
      rw [h1, Nat.mul_one] at ea
      have : ((cs.toList.drop i).take 1)[0]? = some (.int .i64 a) := by rw [ea]; rfl
      rw [List.getElem?_take, if_pos (by decide), List.getElem?_drop] at this
      simpa using this
    refine ⟨cs.toList.map intOf, ?_, by simpa using h2⟩
    have : ivs (cs.toList.map intOf) = cs.toList := by
      apply List.ext_getElem?
      intro i
      rcases Nat.lt_or_ge i n with hi | hi
      · obtain ⟨a, ha⟩ := hall i hi
        simp only [ivs, List.getElem?_map, ha]
        rfl
      · rw [List.getElem?_eq_none (by simp [ivs]; omega), List.getElem?_eq_none (by simp; omega)]
    rw [this]

end

end Go.Qd
