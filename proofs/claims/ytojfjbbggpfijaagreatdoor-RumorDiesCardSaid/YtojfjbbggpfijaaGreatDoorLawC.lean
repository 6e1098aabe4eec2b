/- What the laws of the chapter on rumors load. -/
import Derived.Test.YtojfjbbggpfijaaGreatDoorBasA
import Derived.Test.YtojfjbbggpfijaaGreatDoorRumsO
namespace Go.Proofs.YtojfjbbggpfijaaGreatDoor
open Go.RowKit Go.Qd RepV

theorem cfgLd {W w : World} {R : List HP} {C : Nat} {c : List Int} (hc : c.length = 20) (s : St W w (row C 0 (ivs c) :: R)) :
    (loadG 23 (.pointer (some ⟨C, 0, none⟩))).run Tryz.prog w = .ok (.agg (ivs c).toArray) w ∧ (loadG 3 (.pointer (some ⟨C, 0, none⟩))).run Tryz.prog w = .ok (.int .i64 (c.getD 0 0)) w ∧ (loadG 3 (.pointer (some ⟨C, 3, none⟩))).run Tryz.prog w = .ok (.int .i64 (c.getD 3 0)) w :=
  ⟨run_loadG agg23 (ivs_len20 hc) s.rowAll, run_ldP (by kernel_rfl) (cfg_at s (i := 0) (by rw [hc]; decide)), run_ldP (by kernel_rfl) (cfg_at s (i := 3) (by rw [hc]; decide))⟩
theorem mnew_a {W w : World} {R : List HP} {A : RAd} {c : List Int} {b dp : Nat} {r : RepV} (st : St W w (row b 0 (millC A.p c dp none 0 0) :: RepA A r :: R)) :
    St W w (OwnS 4 none 0 0 (tkC []) :: row b 0 (millC A.p c dp none 0 0) :: RepA A r :: R) := OwnS.none0 st
/-- A letter in memory. -/
theorem let_ldR {W w : World} {R : List HP} {B : Nat} {x : LetV} (s : St W w (row B 0 x.cells :: R)) : (loadG 3 (.pointer (some ⟨B, 0, none⟩))).run Tryz.prog w = .ok (.int .i64 x.to) w ∧ (loadG 3 (.pointer (some ⟨B, 1, none⟩))).run Tryz.prog w = .ok (.int .i64 x.m.kind) w ∧
    (loadG 60 (.pointer (some ⟨B, 9 + 2, none⟩))).run Tryz.prog w = .ok (.slice x.m.ma x.m.mn x.m.mq) w := by
  have f : ∀ i v, x.cells[i]? = some v → w.cell? ⟨B, i, none⟩ = some v := fun i v hv => by have := s.rowCell hv; rwa [Nat.zero_add] at this
  exact ⟨run_ldP (by kernel_rfl) (f 0 _ rfl), run_ldP (by kernel_rfl) (f 1 _ rfl), run_ldP (by kernel_rfl) (f 11 _ rfl)⟩
end Go.Proofs.YtojfjbbggpfijaaGreatDoor
