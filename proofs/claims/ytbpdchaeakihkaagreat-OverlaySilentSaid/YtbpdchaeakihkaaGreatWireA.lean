/- wire: the kinds' forms. Printed by mkWireA.py. -/
import Derived.Test.YtbpdchaeakihkaaGreatOverE
namespace Go.Proofs.YtbpdchaeakihkaaGreat
open Go.RowKit Go.Qd

def formL : List (List Value) := [
  [.string ByteArray.empty, .int .i64 0, .int .i64 0, .int .i64 0, .int .i64 0, .int .i64 0],
  [.string { data := #[106, 111, 105, 110] }, .int .i64 0, .int .i64 0, .int .i64 0, .int .i64 0, .int .i64 0],
  [.string { data := #[102, 111, 114, 119, 97, 114, 100] }, .int .i64 3, .int .i64 0, .int .i64 0, .int .i64 0, .int .i64 0],
  [.string { data := #[110, 101, 105, 103, 104, 98, 111, 114] }, .int .i64 4, .int .i64 0, .int .i64 0, .int .i64 0, .int .i64 0],
  [.string { data := #[97, 99, 99, 101, 112, 116] }, .int .i64 0, .int .i64 0, .int .i64 0, .int .i64 0, .int .i64 0],
  [.string { data := #[114, 101, 102, 117, 115, 101] }, .int .i64 0, .int .i64 0, .int .i64 0, .int .i64 0, .int .i64 0],
  [.string { data := #[112, 97, 114, 116] }, .int .i64 0, .int .i64 0, .int .i64 0, .int .i64 0, .int .i64 0],
  [.string { data := #[115, 104, 117, 102, 102, 108, 101] }, .int .i64 11, .int .i64 0, .int .i64 0, .int .i64 0, .int .i64 0],
  [.string { data := #[115, 119, 97, 112] }, .int .i64 8, .int .i64 0, .int .i64 0, .int .i64 0, .int .i64 0],
  [.string { data := #[98, 101, 97, 116] }, .int .i64 0, .int .i64 0, .int .i64 0, .int .i64 0, .int .i64 0],
  [.string { data := #[103, 111, 115, 115, 105, 112] }, .int .i64 256, .int .i64 0, .int .i64 0, .int .i64 1, .int .i64 1],
  [.string { data := #[104, 97, 118, 101] }, .int .i64 128, .int .i64 1, .int .i64 8, .int .i64 0, .int .i64 0],
  [.string { data := #[103, 114, 97, 102, 116] }, .int .i64 128, .int .i64 1, .int .i64 1, .int .i64 0, .int .i64 0],
  [.string { data := #[112, 114, 117, 110, 101] }, .int .i64 0, .int .i64 0, .int .i64 0, .int .i64 0, .int .i64 0],
  [.string { data := #[114, 117, 109, 111, 114, 115] }, .int .i64 256, .int .i64 0, .int .i64 0, .int .i64 1, .int .i64 8],
  [.string { data := #[101, 99, 104, 111] }, .int .i64 384, .int .i64 0, .int .i64 8, .int .i64 0, .int .i64 8],
  [.string { data := #[99, 104, 101, 99, 107] }, .int .i64 304, .int .i64 0, .int .i64 0, .int .i64 0, .int .i64 8],
  [.string { data := #[109, 97, 116, 99, 104] }, .int .i64 304, .int .i64 0, .int .i64 0, .int .i64 0, .int .i64 8],
  [.string { data := #[112, 101, 101, 108] }, .int .i64 336, .int .i64 0, .int .i64 0, .int .i64 0, .int .i64 8],
  [.string { data := #[112, 105, 108, 101] }, .int .i64 368, .int .i64 0, .int .i64 0, .int .i64 0, .int .i64 8]]
def formC (k : Nat) : List Value := formL.getD k []
def fieldsF (k : Nat) : Int := [0, 0, 3, 4, 0, 0, 0, 11, 8, 0, 256, 128, 128, 0, 256, 384, 304, 304, 336, 368].getD k 0
theorem agg195 : AggT Tryz.prog 195 6 := ⟨⟨_, Tryz.underlying195, rfl⟩, by kernel_rfl⟩
theorem agg193 : AggT Tryz.prog 193 2 := ⟨⟨_, Tryz.underlying193, rfl⟩, by kernel_rfl⟩
theorem zero193 (w : World) : (zeroValue 193).run Tryz.prog w = .ok (.agg [Value.int .i64 0, .int .i64 0].toArray) w := by kernel_rfl
theorem zero195 (w : World) : (zeroValue 195).run Tryz.prog w = .ok (.agg [Value.string ByteArray.empty, .int .i64 0, .int .i64 0, .int .i64 0, .int .i64 0, .int .i64 0].toArray) w := by kernel_rfl

section
variable {W w : World} {R : List HP} {post : Ending → World → Prop}

set_option maxRecDepth 100000 in
set_option maxHeartbeats 4000000 in
theorem forms_c (st : St W w R) (K : ∀ B w', St W w' (row B 0 formL.flatten :: R) → post (.returned (.slice (some ⟨B, 0, none⟩) 20 20)) w') : Calls Tryz.prog 169 #[] w post := by
  have HK := hid K; clear K
  go_enter Tryz.func169, Tryz.ntmps169
  go_wp2_with fail
  have s4 : St W ((((w.alloc (.cells #[.int .i64 1, .int .i64 1] 193)).alloc (.cells #[.int .i64 1, .int .i64 8] 193)).alloc (.cells #[.int .i64 0, .int .i64 8] 193)).alloc (.cells formL.flatten.toArray 195)) (row (w.heap.size + 1 + 1 + 1) 0 formL.flatten :: R) := by
    have := (((st.alloc #[.int .i64 1, .int .i64 1] 193).drop.alloc #[.int .i64 1, .int .i64 8] 193).drop.alloc #[.int .i64 0, .int .i64 8] 193).drop.alloc formL.flatten.toArray 195
    simpa using this
  exact HK.out _ _ s4

end

end Go.Proofs.YtbpdchaeakihkaaGreat
