/- RotaComes, the plain law: who is always known is told in time. -/
import Derived.Test.YtnibgchgcggfbadRotaC
namespace Go.Proofs.Ytnibgchgcggfbad
open Go.RowKit Go.Qd

def all12 : List Int := [0, 1, 2, 3, 4, 5, 6, 7, 8, 9, 10, 11]
theorem mem_all12 {x : Int} : x ∈ all12 ↔ 0 ≤ x ∧ x < 12 := by simp [all12]; omega
theorem rota_all {p : Int} (h : 0 ≤ p ∧ p < 12) : rotaL (p :: all12) = all12 :=
  sorted_ext (rotaL_sorted _) (by decide) (fun x => by rw [mem_rotaL, List.mem_cons, mem_all12]; omega)

/-- What is left k calls behind the beginning of a cycle of all. -/
def lk (k : Nat) : List Int := if k % 12 = 0 then [] else all12.drop (k % 12)
theorem lk_step (p : Int) (h : 0 ≤ p ∧ p < 12) (k : Nat) (c : Int) : nP (lk k) (p :: all12) = (k % 12 : Nat) ∧ nL (lk k) (p :: all12) = lk (k + 1) ∧ nC (c + ((k + 11) / 12 : Nat)) (lk k) = c + ((k + 1 + 11) / 12 : Nat) ∧ (k + 1 + 11) / 12 = k / 12 + 1 := by
  have hk : k % 12 < 12 := Nat.mod_lt _ (by omega)
  have h12 : (k + 1) % 12 = if k % 12 = 11 then 0 else k % 12 + 1 := by split <;> omega
  have hq : (k + 1 + 11) / 12 = k / 12 + 1 := by omega
  refine ⟨?_, ?_, ?_, hq⟩
  · unfold nP lk
    by_cases h0 : k % 12 = 0
    · rw [if_pos h0, if_pos rfl, rota_all h, h0]; rfl
    · rw [if_neg h0]
      have : k % 12 = 1 ∨ k % 12 = 2 ∨ k % 12 = 3 ∨ k % 12 = 4 ∨ k % 12 = 5 ∨ k % 12 = 6 ∨ k % 12 = 7 ∨ k % 12 = 8 ∨ k % 12 = 9 ∨ k % 12 = 10 ∨ k % 12 = 11 := by omega
      rcases this with e | e | e | e | e | e | e | e | e | e | e <;> rw [e] <;> rfl
  · unfold nL lk
    rw [h12]
    by_cases h0 : k % 12 = 0
    · rw [if_pos h0, if_pos rfl, rota_all h, h0]; rfl
    · rw [if_neg h0]
      have : k % 12 = 1 ∨ k % 12 = 2 ∨ k % 12 = 3 ∨ k % 12 = 4 ∨ k % 12 = 5 ∨ k % 12 = 6 ∨ k % 12 = 7 ∨ k % 12 = 8 ∨ k % 12 = 9 ∨ k % 12 = 10 ∨ k % 12 = 11 := by omega
      rcases this with e | e | e | e | e | e | e | e | e | e | e <;> rw [e] <;> rfl
  · unfold nC lk
    by_cases h0 : k % 12 = 0
    · rw [if_pos h0, if_pos rfl]; omega
    · rw [if_neg h0]
      have hne : all12.drop (k % 12) ≠ [] := by
        have : 0 < (all12.drop (k % 12)).length := by rw [List.length_drop]; show 0 < 12 - k % 12; omega
        exact List.length_pos_iff.1 this
      rw [if_neg hne]; omega

/-- Where the second part stands behind i calls: m were left at first, c cycles had begun. -/
structure CAt (n m : Nat) (c p : Int) (i : Nat) (cyc : Int) (L : List Int) (told whole : Bool) : Prop where
  low : 0 ≤ cyc ∧ cyc ≤ c + i
  pre : i ≤ m → L.length = m - i ∧ (i = m → cyc = c + (0 : Nat)) ∧ (cyc = c)
  post : m ≤ i → L = lk (i - m) ∧ cyc = c + ((i - m + 11) / 12 : Nat)
  told : p < ((i - m : Nat) : Int) → told = true
  whole : ∀ j : Nat, (c + j + 1) % n = 0 → 12 * (j : Int) + p < ((i - m : Nat) : Int) → whole = true

theorem CAt.start {n m : Nat} {c p : Int} {L : List Int} (hp : 0 ≤ p) (hc : 0 ≤ c) (hL : L.length = m) : CAt n m c p 0 c L false false := by
  refine ⟨⟨hc, by omega⟩, fun _ => ⟨by omega, fun _ => by simp, rfl⟩, fun h => ?_, fun h => ?_, fun j _ h => ?_⟩
  · have : m = 0 := by omega
    subst this
    have : L = [] := List.eq_nil_of_length_eq_zero hL
    subst this
    simp [lk]
  · simp at h; omega
  · simp at h; omega

theorem CAt.step {n m : Nat} {c p : Int} {i : Nat} {cyc : Int} {L : List Int} {told whole : Bool} (hp : 0 ≤ p ∧ p < 12) (hn : 1 ≤ n) (h : CAt n m c p i cyc L told whole) :
    CAt n m c p (i + 1) (nC cyc L) (nL L (p :: all12)) (told || nP L (p :: all12) == p) (whole || (nP L (p :: all12) == p && nC cyc L % n == 0)) := by
  by_cases hi : i < m
  · obtain ⟨h1, _, h3⟩ := h.pre (by omega)
    have hne : L ≠ [] := fun e => by subst e; simp at h1; omega
    have e1 : nC cyc L = cyc := by unfold nC; rw [if_neg hne]
    have e2 : nL L (p :: all12) = L.tail := by unfold nL; rw [if_neg hne]
    rw [e1, e2]
    refine ⟨⟨h.low.1, by have := h.low.2; omega⟩, fun hm => ⟨by rw [List.length_tail]; omega, fun _ => by rw [h3]; simp, h3⟩, fun hm => ?_, fun ht => ?_, fun j _ hj => ?_⟩
    · have hm' : m = i + 1 := by omega
      have hl : L.tail.length = 0 := by rw [List.length_tail]; omega
      have : L.tail = [] := List.eq_nil_of_length_eq_zero hl
      rw [this, hm', Nat.sub_self]
      exact ⟨by simp [lk], by rw [h3]; simp⟩
    · have : i + 1 - m = 0 := by omega
      rw [this] at ht; simp at ht; omega
    · have : i + 1 - m = 0 := by omega
      rw [this] at hj; simp at hj; omega
  · have hm : m ≤ i := by omega
    obtain ⟨hL, hcyc⟩ := h.post hm
    obtain ⟨k, hk⟩ : ∃ k, i - m = k := ⟨_, rfl⟩
    have hk1 : i + 1 - m = k + 1 := by omega
    rw [hk] at hL hcyc
    subst hL
    obtain ⟨e1, e2, e3, e4⟩ := lk_step p hp k c
    rw [← hcyc] at e3
    rw [e1, e2, e3]
    have ht := h.told
    have hw := h.whole
    rw [hk] at ht hw
    refine ⟨⟨by have := h.low.1; omega, by have := h.low.2; omega⟩, fun hm' => by omega, fun _ => by rw [hk1]; exact ⟨rfl, rfl⟩, fun hpk => ?_, fun j hj hjk => ?_⟩
    · rw [hk1] at hpk
      by_cases hlt : p < (k : Int)
      · rw [ht hlt]; rfl
      · have : ((k % 12 : Nat) : Int) = p := by omega
        rw [this]; simp
    · rw [hk1] at hjk
      by_cases hlt : 12 * (j : Int) + p < (k : Int)
      · rw [hw j hj hlt]; rfl
      · have hkp : ((k % 12 : Nat) : Int) = p := by omega
        have hkj : k / 12 = j := by omega
        rw [hkp, e4, hkj]
        have : (c + ((j + 1 : Nat) : Int)) % (n : Int) = 0 := by rw [← hj]; congr 1; omega
        rw [this]; simp

/-- In n cycles one is full. -/
theorem some_full {n : Nat} {c : Int} (hn : 1 ≤ n) : ∃ j : Nat, j < n ∧ (c + j + 1) % n = 0 := by
  have h1 := Int.emod_nonneg (-(c + 1)) (by omega : (n : Int) ≠ 0)
  have h2 := Int.emod_lt_of_pos (-(c + 1)) (by omega : (0 : Int) < n)
  refine ⟨((-(c + 1)) % n).toNat, by omega, ?_⟩
  have h3 : (((-(c + 1)) % n).toNat : Int) = (-(c + 1)) % n := by omega
  rw [h3]
  have h4 := Int.emod_add_mul_ediv (-(c + 1)) n
  have : c + (-(c + 1)) % n + 1 = n * (-((-(c + 1)) / n)) := by
    have : (-(c + 1)) % n = -(c + 1) - n * ((-(c + 1)) / n) := by omega
    rw [this, Int.mul_neg]; omega
  rw [this]
  exact Int.mul_emod_right _ _

theorem CAt.end {n m : Nat} {c p : Int} {i : Nat} {cyc : Int} {L : List Int} {told whole : Bool} (hp : 0 ≤ p ∧ p < 12) (hn : 1 ≤ n) (hm : m ≤ 12) (h : CAt n m c p i cyc L told whole) (hi : i = 12 * (n + 2)) : whole = true := by
  obtain ⟨j, hj, hf⟩ := some_full (c := c) hn
  exact h.whole j hf (by omega)

theorem CAt.soon {n m : Nat} {c p : Int} {cyc : Int} {L : List Int} {told whole : Bool} (hp : 0 ≤ p ∧ p < 12) (hm : m ≤ 12) (h : CAt n m c p 24 cyc L told whole) : told = true := h.told (by omega)

end Go.Proofs.Ytnibgchgcggfbad
