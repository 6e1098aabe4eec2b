/- ViewsKeep, the plain law: nobody is forgotten where there is room for all. -/
import Derived.Test.YtnibgchgcggfbacViewsK
import Derived.Test.YtnibgchgcggfbacViewsS
import Derived.Test.YtnibgchgcggfbacActs
namespace Go.Proofs.Ytnibgchgcggfbac
open Go.RowKit Go.Qd

theorem sorted_len : ∀ {l : List Int} {lo hi : Int}, l.Pairwise (· < ·) → (∀ x ∈ l, lo ≤ x ∧ x < hi) → lo ≤ hi → (l.length : Int) ≤ hi - lo
  | [], lo, hi, _, _, h => by simp; omega
  | a :: l, lo, hi, hp, hb, h => by
    obtain ⟨h1, h2⟩ := List.pairwise_cons.1 hp
    have ha := hb a (by simp)
    have := sorted_len (lo := a + 1) (hi := hi) h2 (fun x hx => ⟨by have := h1 x hx; omega, (hb x (by simp [hx])).2⟩) (by omega)
    simp only [List.length_cons]; omega

/-- Eleven places are room enough. -/
theorem room11 {l : List Int} {self q : Int} (hs : l.Pairwise (· < ·)) (hl : ∀ x ∈ l, nodeB x = true ∧ x ≠ self) (hq : nodeB q = true ∧ q ≠ self) (hself : nodeB self = true) (hn : q ∉ l) : ¬ (11 : Int) ≤ l.length := by
  intro h
  have h1 := insL_sorted hs hn
  have hself2 : self ∉ insL l q := fun g => by
    rcases mem_insL.1 g with g | g
    · exact (hl _ g).2 rfl
    · exact hq.2 g.symm
  have h2 := insL_sorted h1 hself2
  have := sorted_len (lo := 0) (hi := 12) h2 (fun x hx => by
    rcases mem_insL.1 hx with g | g
    · rcases mem_insL.1 g with g | g
      · exact nodeB_iff.1 (hl _ g).1
      · rw [g]; exact nodeB_iff.1 hq.1
    · rw [g]; exact nodeB_iff.1 hself) (by omega)
  rw [insL_len, insL_len] at this
  omega

def inV (V : VV) (x : Int) : Prop := x ∈ V.a ∨ x ∈ V.p
/-- Nobody is forgotten. -/
def KeepV (V V' : VV) : Prop := V'.self = V.self ∧ V'.am = V.am ∧ V'.pm = V.pm ∧ (V.pm = 11 → ∀ x, inV V x → inV V' x)

theorem addL_keep {D l : List Int} {self p x : Int} (hs : l.Pairwise (· < ·)) (hl : ∀ x ∈ l, nodeB x = true ∧ x ≠ self) (hq : nodeB p = true ∧ p ≠ self) (hself : nodeB self = true) (hn : p ∉ l) (hx : x ∈ l) : x ∈ addL D l 11 p :=
  addL_mem.2 (.inr ⟨hx, fun h => absurd h (room11 hs hl hq hself hn)⟩)

theorem keep_raise {V : VV} (hV : VOK V) (hself : nodeB V.self = true) (D : List Int) (q : Int) : KeepV V (raiseV V D q) := by
  have h := hV
  unfold raiseV
  by_cases hr : raiseOk V q = true
  · rw [if_pos hr]
    refine ⟨rfl, rfl, rfl, fun h11 x hx => ?_⟩
    obtain ⟨h1, h2, h3⟩ := raiseOk_iff.1 hr
    show x ∈ raiseA V D q ∨ x ∈ (if _ then _ else _)
    by_cases hxq : x = q
    · exact .inl (addL_mem.2 (.inl hxq))
    · rcases hx with hx | hx
      · by_cases hf : V.am ≤ V.a.length
        · obtain ⟨e, hm, h0⟩ := raiseG_full hV (D := D) hf
          by_cases hg : x = raiseG V D
          · rw [if_pos h0]; exact .inr (addL_mem.2 (.inl hg))
          · exact .inl (addL_mem.2 (.inr ⟨hx, fun _ hh => hg (hh.trans e.symm)⟩))
        · exact .inl (addL_mem.2 (.inr ⟨hx, fun hh => absurd hh hf⟩))
      · right
        have hxd : x ∈ dropL V.p q := mem_dropL.2 ⟨hx, hxq⟩
        by_cases h0 : 0 ≤ raiseG V D
        · rw [if_pos h0, h11]
          have hf := (raiseG_iff hV).1 h0
          obtain ⟨e, hm, _⟩ := raiseG_full hV (D := D) hf
          exact addL_keep (dropL_sorted hV.sp q) (fun y hy => hV.np y (mem_dropL.1 hy).1) (hV.na _ hm) hself (fun hh => hV.dis _ hm (mem_dropL.1 hh).1) hxd
        · rw [if_neg h0]; exact hxd
  · rw [if_neg hr]; exact ⟨rfl, rfl, rfl, fun _ _ h => h⟩

theorem keep_lower {V : VV} (hV : VOK V) (hself : nodeB V.self = true) (D : List Int) (q : Int) : KeepV V (lowerV V D q) := by
  unfold lowerV
  by_cases hr : memB V.a q = true
  · rw [if_pos hr]
    have hq := memB_iff.1 hr
    refine ⟨rfl, rfl, rfl, fun h11 x hx => ?_⟩
    show x ∈ dropL V.a q ∨ x ∈ addL D V.p V.pm q
    rcases hx with hx | hx
    · by_cases hxq : x = q
      · exact .inr (addL_mem.2 (.inl hxq))
      · exact .inl (mem_dropL.2 ⟨hx, hxq⟩)
    · rw [h11]; exact .inr (addL_keep hV.sp hV.np (hV.na _ hq) hself (hV.dis _ hq) hx)
  · rw [if_neg hr]; exact ⟨rfl, rfl, rfl, fun _ _ h => h⟩

theorem keep_learn {V : VV} (hV : VOK V) (hself : nodeB V.self = true) (D : List Int) (q : Int) : KeepV V (learnV V D q) := by
  unfold learnV
  by_cases hr : learnOk V q = true
  · rw [if_pos hr]
    obtain ⟨h1, h2, h3, h4⟩ := learnOk_iff.1 hr
    refine ⟨rfl, rfl, rfl, fun h11 x hx => ?_⟩
    show x ∈ V.a ∨ x ∈ addL D V.p V.pm q
    rcases hx with hx | hx
    · exact .inl hx
    · rw [h11]; exact .inr (addL_keep hV.sp hV.np ⟨h1, h2⟩ hself h4 hx)
  · rw [if_neg hr]; exact ⟨rfl, rfl, rfl, fun _ _ h => h⟩

/-- All that are known. -/
def knownL (V : VV) : List Int := sortL (V.a ++ V.p)
theorem mem_knownL {V : VV} {x : Int} : x ∈ knownL V ↔ inV V x := by unfold knownL sortL inV; rw [List.mem_mergeSort, List.mem_append]
theorem knownL_len (V : VV) : (knownL V).length = V.a.length + V.p.length := by unfold knownL sortL; rw [List.length_mergeSort, List.length_append]
theorem msort_le (zs : List Int) : (sortL zs).Pairwise (· ≤ ·) := by
  have := List.pairwise_mergeSort (le := fun x y : Int => decide (x ≤ y)) (fun a b c => by simp; omega) (fun a b => by simp; omega) zs
  simpa [sortL] using this
theorem knownL_sorted {V : VV} (hV : VOK V) : (knownL V).Pairwise (· < ·) := by
  have h1 := msort_le (V.a ++ V.p)
  have hnd : (V.a ++ V.p).Nodup := by
    rw [List.nodup_append]
    exact ⟨hV.sa.imp (fun h => by omega), hV.sp.imp (fun h => by omega), fun a ha b hb hab => hV.dis a ha (by rw [hab]; exact hb)⟩
  have h2 : (sortL (V.a ++ V.p)).Nodup := (List.mergeSort_perm (V.a ++ V.p) _).nodup_iff.2 hnd
  exact (h1.and h2).imp (fun h => by omega)

theorem knownL_told {V : VV} (hV : VOK V) {x : Int} (hx : x ∈ knownL V) : nodeB x = true ∧ x ≠ V.self ∧ (memB V.a x = true ∧ memB V.p x = false ∨ memB V.a x = false ∧ memB V.p x = true) := by
  rcases mem_knownL.1 hx with h | h
  · exact ⟨(hV.na x h).1, (hV.na x h).2, .inl ⟨memB_yes h, memB_no (hV.dis x h)⟩⟩
  · exact ⟨(hV.np x h).1, (hV.np x h).2, .inr ⟨memB_no (fun g => hV.dis x g h), memB_yes h⟩⟩

section
variable {W w : World} {R : List HP} {post : Ending → World → Prop} {b d : Nat} {V : VV} {D : List Int} {q : Int}

theorem raise_any (st : St W w (ViewsA b V :: DiceA d D :: R)) (hV : VOK V) (hself : nodeB V.self = true)
    (K : ∀ w' V' D' g ok, St W w' (ViewsA b V' :: DiceA d D' :: R) → VOK V' → KeepV V V' → post (.returned (.tuple #[.int .i64 g, .bool ok])) w') :
    Calls Try.prog 12 #[.pointer (some ⟨b, 0, none⟩), .int .i64 q, .pointer (some ⟨d, 0, none⟩)] w post := by
  by_cases h : raiseOk V q = true
  · exact raise_yes st hV h fun w' s' => K w' _ _ _ _ s' (hV.raise D q) (keep_raise hV hself D q)
  · exact raise_no st (by simpa using h) (K w V D _ _ st hV ⟨rfl, rfl, rfl, fun _ _ h => h⟩)

theorem lower_any (st : St W w (ViewsA b V :: DiceA d D :: R)) (hV : VOK V) (hself : nodeB V.self = true)
    (K : ∀ w' V' D' ok, St W w' (ViewsA b V' :: DiceA d D' :: R) → VOK V' → KeepV V V' → post (.returned (.bool ok)) w') :
    Calls Try.prog 14 #[.pointer (some ⟨b, 0, none⟩), .int .i64 q, .pointer (some ⟨d, 0, none⟩)] w post :=
  lower_c st hV fun w' s' => K w' _ _ _ s' (hV.lower D q) (keep_lower hV hself D q)

theorem learn_any (st : St W w (ViewsA b V :: DiceA d D :: R)) (hV : VOK V) (hself : nodeB V.self = true)
    (K : ∀ w' V' D' ok, St W w' (ViewsA b V' :: DiceA d D' :: R) → VOK V' → KeepV V V' → post (.returned (.bool ok)) w') :
    Calls Try.prog 15 #[.pointer (some ⟨b, 0, none⟩), .int .i64 q, .pointer (some ⟨d, 0, none⟩)] w post := by
  by_cases h : learnOk V q = true
  · exact learn_yes st hV h fun w' s' => K w' _ _ _ s' (hV.learn D q) (keep_learn hV hself D q)
  · exact learn_no st (by simpa using h) (K w V D _ st hV ⟨rfl, rfl, rfl, fun _ _ h => h⟩)

theorem refNode_c {p : Int} (K : post (.returned (.bool (nodeB p))) w) : Calls Try.prog 18 #[.int .i64 p] w post := by
  unfold nodeB at K
  by_cases h : 0 ≤ p
  · rw [decide_eq_true h, Bool.true_and] at K
    have HK := hid K; clear K
    go_enter Try.func18, Try.ntmps18
    go_wp2
    exact HK.out
  · rw [decide_eq_false h, Bool.false_and] at K
    have HK := hid K; clear K
    go_enter Try.func18, Try.ntmps18
    go_wp2
    exact HK.out

end

/-- Is it among these? As the statement's loop finds it. -/
def anyEq (l : List Int) (n : Int) : Bool := l.any (fun x => x == n)
theorem anyEq_snoc {l : List Int} {j : Nat} (h : j < l.length) (n : Int) : anyEq (l.take (j + 1)) n = (anyEq (l.take j) n || (l[j] == n)) := by
  unfold anyEq; rw [List.take_succ_eq_append_getElem h, List.any_append]; simp
theorem anyEq_all {l : List Int} {n : Int} (h : n ∈ l) : anyEq l n = true := by unfold anyEq; rw [List.any_eq_true]; exact ⟨n, h, by simp⟩

end Go.Proofs.Ytnibgchgcggfbac
