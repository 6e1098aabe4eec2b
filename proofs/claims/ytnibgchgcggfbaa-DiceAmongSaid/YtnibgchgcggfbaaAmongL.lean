/- DiceAmong: what is drawn is among those that there are: on lists. -/
import Derived.Test.YtnibgchgcggfbaaDiceC
namespace Go.Proofs.Ytnibgchgcggfbaa
open Go.RowKit Go.Qd

theorem erase_perm : ∀ (l : List Int) (i : Nat) (h : i < l.length), l.Perm (l[i] :: l.eraseIdx i)
  | a :: l, 0, _ => List.Perm.refl _
  | a :: l, i + 1, h => by
    have := erase_perm l i (by simpa using h)
    exact (List.Perm.cons a this).trans (List.Perm.swap _ _ _)

theorem drawV_nat {l : List Int} {n : Nat} (h : 0 < n) : (drawV l n).toNat < n := by
  have := drawV_range (l := l) (n := (n : Int)) (by omega)
  omega

theorem pickV_eq {l Q : List Int} (h : Q ≠ []) : ∃ hq : (drawV l Q.length).toNat < Q.length, pickV l Q = Q[(drawV l Q.length).toNat] := by
  have hp : 0 < Q.length := List.length_pos_iff.2 h
  have hq := drawV_nat (l := l) hp
  exact ⟨hq, by unfold pickV; simp [List.getD, hq]⟩

theorem pickV_mem {l Q : List Int} (h : Q ≠ []) : pickV l Q ∈ Q := by
  obtain ⟨hq, e⟩ := pickV_eq (l := l) h
  rw [e]; exact List.getElem_mem hq

theorem someF_perm : ∀ (k : Nat) (l zs : List Int), zs.Perm ((someF k l zs).2.1 ++ (someF k l zs).2.2) ∧ (someF k l zs).2.1.length = min k zs.length
  | 0, l, zs => by simp [someF]
  | k + 1, l, zs => by
    by_cases h : zs = []
    · subst h; simp [someF]
    · rw [someF_step _ _ _ h]
      obtain ⟨hq, e⟩ := pickV_eq (l := l) h
      obtain ⟨h1, h2⟩ := someF_perm k (drawL l zs.length) (zs.eraseIdx (drawV l zs.length).toNat)
      refine ⟨?_, ?_⟩
      · show zs.Perm (pickV l zs :: (_ ++ _))
        rw [e]
        exact (erase_perm _ _ hq).trans (List.Perm.cons _ h1)
      · show (_ :: _).length = _
        rw [List.length_cons, h2, List.length_eraseIdx, if_pos hq]
        omega

/-- Where the outer loop stands. -/
def AmongAt (O Q : List Int) (j : Nat) (Rr : List Int) : Prop := (O.drop j ++ Q).Perm Rr

theorem AmongAt.start {k : Nat} {l zs : List Int} : AmongAt (someF k l zs).2.1 (someF k l zs).2.2 0 zs := by
  unfold AmongAt; rw [List.drop_zero]; exact (someF_perm k l zs).1.symm

theorem AmongAt.mem {O Q Rr : List Int} {j : Nat} (h : AmongAt O Q j Rr) (hj : j < O.length) : O[j] ∈ Rr := by
  refine h.subset ?_
  have : O[j] ∈ O.drop j := by rw [List.drop_eq_getElem_cons hj]; exact List.mem_cons_self
  exact List.mem_append.2 (.inl this)

theorem AmongAt.step {O Q Rr : List Int} {j q : Nat} (h : AmongAt O Q j Rr) (hj : j < O.length) (hq : q < Rr.length) (e : Rr[q] = O[j]) : AmongAt O Q (j + 1) (Rr.eraseIdx q) := by
  unfold AmongAt at h ⊢
  rw [List.drop_eq_getElem_cons hj] at h
  have h1 := h.trans (erase_perm _ _ hq)
  rw [e] at h1
  exact h1.cons_inv

theorem take_mem {l : List Int} {i : Nat} {p : Int} (h : i < l.length) : decide (p ∈ l.take (i + 1)) = (decide (p ∈ l.take i) || decide (l[i] = p)) := by
  rw [List.take_succ_eq_append_getElem h]
  rw [Bool.eq_iff_iff]
  simp only [decide_eq_true_eq, Bool.or_eq_true, List.mem_append, List.mem_singleton]
  exact ⟨fun h => h.imp id Eq.symm, fun h => h.imp id Eq.symm⟩

/-- Where the inner loop stands: the first place of x, or none. -/
def FoundAt (Rr : List Int) (x : Int) (k : Nat) (a : Int) : Prop := (a = -1 ∧ ∀ t (h : t < Rr.length), t < k → Rr[t] ≠ x) ∨ ∃ q : Nat, a = q ∧ ∃ h : q < Rr.length, Rr[q] = x

theorem FoundAt.start (Rr : List Int) (x : Int) : FoundAt Rr x 0 (-1) := .inl ⟨rfl, fun _ _ h => by omega⟩
theorem FoundAt.hit {Rr : List Int} {x : Int} {k : Nat} (hk : k < Rr.length) (e : Rr[k] = x) : FoundAt Rr x (k + 1) k := .inr ⟨k, rfl, hk, e⟩
theorem FoundAt.keep {Rr : List Int} {x : Int} {k : Nat} {a : Int} (h : FoundAt Rr x k a) (ha : 0 ≤ a) : FoundAt Rr x (k + 1) a := by
  rcases h with ⟨rfl, _⟩ | h
  · omega
  · exact .inr h
theorem FoundAt.miss {Rr : List Int} {x : Int} {k : Nat} {a : Int} (h : FoundAt Rr x k a) (hk : k < Rr.length) (e : Rr[k] ≠ x) : FoundAt Rr x (k + 1) a := by
  rcases h with ⟨rfl, h⟩ | h
  · refine .inl ⟨rfl, fun t ht hlt => ?_⟩
    rcases Nat.lt_or_ge t k with g | g
    · exact h t ht g
    · have : t = k := by omega
      subst this; exact e
  · exact .inr h
theorem FoundAt.done {Rr : List Int} {x : Int} {k : Nat} {a : Int} (h : FoundAt Rr x k a) (hk : k = Rr.length) (hx : x ∈ Rr) : ∃ q : Nat, a = q ∧ ∃ h : q < Rr.length, Rr[q] = x := by
  rcases h with ⟨_, h⟩ | h
  · obtain ⟨t, ht, e⟩ := List.getElem_of_mem hx
    exact absurd e (h t ht (by omega))
  · exact h

end Go.Proofs.Ytnibgchgcggfbaa
