/- rota: the statements' example holds. -/
import Derived.Test.YtnibgchgcggfbadRotaC
namespace Go.Proofs.Ytnibgchgcggfbad
open Go.RowKit Go.Qd

theorem rota31 : rotaL [3, 1] = [1, 3] := sorted_ext (rotaL_sorted _) (by decide) (fun x => by rw [mem_rotaL]; simp; omega)
def spC (k : Nat) : Int := if k = 0 then 0 else if k ≤ 2 then 1 else 2
def spL (k : Nat) : List Int := if k = 1 ∨ k = 3 then [3] else []

theorem sp_step {k : Nat} (h : k < 4) : nC (spC k) (spL k) = spC (k + 1) ∧ nL (spL k) [3, 1] = spL (k + 1) ∧ nP (spL k) [3, 1] = (if k % 2 = 0 then 1 else 3) ∧ ((spC (k + 1)) % 2 == 0) = decide ((1 : Int) < (k : Int)) ∧ 0 ≤ spC k ∧ spC k ≤ 1000000 := by
  have : k = 0 ∨ k = 1 ∨ k = 2 ∨ k = 3 := by omega
  rcases this with rfl | rfl | rfl | rfl <;> simp [nC, nL, nP, spC, spL, rota31]

set_option maxHeartbeats 1000000 in
theorem speaks_c {W w : World} {R : List HP} {post : Ending → World → Prop} (st : St W w R) (K : ∀ w', St W w' R → post (.returned (.bool true)) w') :
    Calls Try.prog 6 #[] w post := by
  have HK := hid K; clear K
  go_enter Try.func6, Try.ntmps6
  go_wp2_with (go_at_call 7; refine rota_new_c st (by decide) ?_; rintro b w1 s1; have s2 := s1.alloc #[.int .i64 1, .int .i64 3, .int .i64 1, .int .i64 3] 3)
  generalize w1.heap.size = B at s2 ⊢
  generalize w1.alloc (.cells #[.int .i64 1, .int .i64 3, .int .i64 1, .int .i64 3] 3) = w2 at s2 ⊢
  go_loopw [20] (fun ii wr => ∃ k : Nat, k ≤ 4 ∧ ii = .int .i64 k ∧ St W wr (RotaA b 2 (spC k) (spL k) :: row B 0 [.int .i64 1, .int .i64 3, .int .i64 1, .int .i64 3] :: R)) (fun ii _ => 4 - (intOf ii).toNat)
  case atStart => exact ⟨0, Nat.zero_le _, rfl, St.pick 1 s2⟩
  case round =>
    obtain ⟨k, hk, rfl, sr⟩ := hrel
    by_cases hlt : k < 4
    · obtain ⟨e1, e2, e3, e4, e5, e6⟩ := sp_step hlt
      have E1 := hid e1; have E2 := hid e2; have E3 := hid e3; have E4 := hid e4; have E5 := hid (And.intro e5 e6)
      clear e1 e2 e3 e4 e5 e6
      have hc : wr.cell? ⟨B, k, none⟩ = some (.int .i64 (if k % 2 = 0 then 1 else 3)) := by
        have : k = 0 ∨ k = 1 ∨ k = 2 ∨ k = 3 := by omega
        have h2 := fun (i : Nat) (u : Value) (h : [Value.int .i64 1, .int .i64 3, .int .i64 1, .int .i64 3][i]? = some u) => (St.pick 1 sr).rowCell (i := i) h
        rcases this with rfl | rfl | rfl | rfl
        · exact h2 0 _ rfl
        · have := h2 1 _ rfl; rwa [Nat.zero_add] at this
        · have := h2 2 _ rfl; rwa [Nat.zero_add] at this
        · have := h2 3 _ rfl; rwa [Nat.zero_add] at this
      obtain ⟨v, hv⟩ : ∃ v : Int, (if k % 2 = 0 then 1 else 3) = v := ⟨_, rfl⟩
      rw [hv] at hc
      have EV := hid (E3.out.trans hv)
      clear hv
      have s3 : St W _ (RotaA b 2 (spC k) (spL k) :: row wr.heap.size 0 (ivs [3, 1]) :: row B 0 [.int .i64 1, .int .i64 3, .int .i64 1, .int .i64 3] :: R) := St.pick 1 (sr.alloc #[.int .i64 3, .int .i64 1] 3)
      go_wp2_with (go_at_call 8; refine next_c (zs := [3, 1]) s3 (fun w s => St.rowRd (n := 2) s rfl (by decide) (ivs_one _)) (by simp) (by omega) (by decide) E5.out ?_; rintro w4 s4; rw [E1.out, E2.out] at s4; rw [EV.out, E1.out, E4.out])
      all_goals
        go_roundw
        case rel => exact ⟨k + 1, by omega, by go_num, (St.pick 1 s4).drop⟩
        case measure => simp [intOf]; omega
    · go_wp2
      exact HK.out _ (sr.dropN 2)

end Go.Proofs.Ytnibgchgcggfbad
