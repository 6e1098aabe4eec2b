/- wire: the seven closures of bare, each clearing a field. -/
import Derived.Test.YtbpdchaeakihkaaGreatWireB
namespace Go.Proofs.YtbpdchaeakihkaaGreat
open Go.RowKit Go.Qd

/-- A message with a field cleared. -/
def clearM (i : Nat) (m : MsgV) : MsgV :=
  match i with
  | 0 => { m with peer := 0 }
  | 1 => { m with hops := 0 }
  | 2 => { m with high := false }
  | 3 => { m with pa := none, pn := 0, pc := 0, ps := [] }
  | 4 => { m with number := 0 }
  | 5 => { m with sum := 0 }
  | 6 => { m with mc := 0, ms := 0, key := ByteArray.empty }
  | _ => m
def clearIf (b : Bool) (i : Nat) (m : MsgV) : MsgV := if b = true then clearM i m else m
/-- A kind's field: is the bit set? -/
def bitF (k i : Nat) : Bool := bits .and .i64 (fieldsF k) ((2 ^ i : Nat) : Int) != 0
def bareN (m : MsgV) (k : Nat) : Nat → MsgV
  | 0 => m
  | i + 1 => clearIf (bitF k i) i (bareN m k i)

section
variable {W w : World} {R : List HP} {post : Ending → World → Prop} {b : Nat} {m : MsgV}

theorem boxMf (st : St W w (row b 0 m.cells :: R)) : ∀ i, i < 12 → w.frozen? ⟨b, i, none⟩ = false := fun i h => by
  have := st.rowFree (i := i) (by exact h); rwa [Nat.zero_add] at this

theorem clear0_c (st : St W w (row b 0 m.cells :: R)) (K : ∀ w', St W w' (row b 0 (clearM 0 m).cells :: R) → post (.returned (.tuple #[])) w') : Calls Tryz.prog 173 #[.pointer (some ⟨b, 0, none⟩)] w post := by
  have HK := hid K; clear K
  obtain ⟨g0, g1, g2, g3, g4, g5, g6, g7, g8, g9, g10, g11⟩ := boxM st
  have f1 := boxMf st 1 (by decide)
  go_enter Tryz.func173, Tryz.ntmps173
  go_wp2
  go_end0
  exact HK.out _ (st.rowSet (i := 1) (by simp [MsgV.cells]) (.int .i64 0))

theorem clear1_c (st : St W w (row b 0 m.cells :: R)) (K : ∀ w', St W w' (row b 0 (clearM 1 m).cells :: R) → post (.returned (.tuple #[])) w') : Calls Tryz.prog 174 #[.pointer (some ⟨b, 0, none⟩)] w post := by
  have HK := hid K; clear K
  obtain ⟨g0, g1, g2, g3, g4, g5, g6, g7, g8, g9, g10, g11⟩ := boxM st
  have f1 := boxMf st 2 (by decide)
  go_enter Tryz.func174, Tryz.ntmps174
  go_wp2
  go_end0
  exact HK.out _ (st.rowSet (i := 2) (by simp [MsgV.cells]) (.int .i64 0))

theorem clear2_c (st : St W w (row b 0 m.cells :: R)) (K : ∀ w', St W w' (row b 0 (clearM 2 m).cells :: R) → post (.returned (.tuple #[])) w') : Calls Tryz.prog 175 #[.pointer (some ⟨b, 0, none⟩)] w post := by
  have HK := hid K; clear K
  obtain ⟨g0, g1, g2, g3, g4, g5, g6, g7, g8, g9, g10, g11⟩ := boxM st
  have f1 := boxMf st 3 (by decide)
  go_enter Tryz.func175, Tryz.ntmps175
  go_wp2
  go_end0
  exact HK.out _ (st.rowSet (i := 3) (by simp [MsgV.cells]) (.bool false))

theorem clear3_c (st : St W w (row b 0 m.cells :: R)) (K : ∀ w', St W w' (row b 0 (clearM 3 m).cells :: R) → post (.returned (.tuple #[])) w') : Calls Tryz.prog 176 #[.pointer (some ⟨b, 0, none⟩)] w post := by
  have HK := hid K; clear K
  obtain ⟨g0, g1, g2, g3, g4, g5, g6, g7, g8, g9, g10, g11⟩ := boxM st
  have f1 := boxMf st 4 (by decide)
  go_enter Tryz.func176, Tryz.ntmps176
  go_wp2
  go_end0
  exact HK.out _ (st.rowSet (i := 4) (by simp [MsgV.cells]) (.slice none 0 0))

theorem clear4_c (st : St W w (row b 0 m.cells :: R)) (K : ∀ w', St W w' (row b 0 (clearM 4 m).cells :: R) → post (.returned (.tuple #[])) w') : Calls Tryz.prog 177 #[.pointer (some ⟨b, 0, none⟩)] w post := by
  have HK := hid K; clear K
  obtain ⟨g0, g1, g2, g3, g4, g5, g6, g7, g8, g9, g10, g11⟩ := boxM st
  have f1 := boxMf st 5 (by decide)
  go_enter Tryz.func177, Tryz.ntmps177
  go_wp2
  go_end0
  exact HK.out _ (st.rowSet (i := 5) (by simp [MsgV.cells]) (.int .i64 0))

theorem clear5_c (st : St W w (row b 0 m.cells :: R)) (K : ∀ w', St W w' (row b 0 (clearM 5 m).cells :: R) → post (.returned (.tuple #[])) w') : Calls Tryz.prog 178 #[.pointer (some ⟨b, 0, none⟩)] w post := by
  have HK := hid K; clear K
  obtain ⟨g0, g1, g2, g3, g4, g5, g6, g7, g8, g9, g10, g11⟩ := boxM st
  have f1 := boxMf st 6 (by decide)
  go_enter Tryz.func178, Tryz.ntmps178
  go_wp2
  go_end0
  exact HK.out _ (st.rowSet (i := 6) (by simp [MsgV.cells]) (.int .u64 0))

theorem clear6_c (st : St W w (row b 0 m.cells :: R)) (K : ∀ w', St W w' (row b 0 (clearM 6 m).cells :: R) → post (.returned (.tuple #[])) w') : Calls Tryz.prog 179 #[.pointer (some ⟨b, 0, none⟩)] w post := by
  have HK := hid K; clear K
  obtain ⟨g0, g1, g2, g3, g4, g5, g6, g7, g8, g9, g10, g11⟩ := boxM st
  have f7 := boxMf st 7 (by decide)
  have f8 := boxMf st 8 (by decide)
  have f9 := boxMf st 9 (by decide)
  go_enter Tryz.func179, Tryz.ntmps179
  go_wp2
  go_end0
  exact HK.out _ (((st.rowSet (i := 7) (by simp [MsgV.cells]) (.int .i64 0)).rowSet (i := 8) (by simp [MsgV.cells]) (.int .i64 0)).rowSet (i := 9) (by simp [MsgV.cells]) (.string ByteArray.empty))

end

end Go.Proofs.YtbpdchaeakihkaaGreat
