/- A message of the program's, without marks and entries, as the document's. Printed by mkToB.py. -/
import Derived.Test.YtbpdchaeakihkaaGreatOfB
namespace Go.Proofs.YtbpdchaeakihkaaGreat
open Go.RowKit Go.Qd

theorem aggRM : AggT Tryz.prog 75 12 := ⟨⟨_, Tryz.underlying75, rfl⟩, by kernel_rfl⟩
theorem zeroRM (w : World) : (zeroValue 75).run Tryz.prog w = .ok (.agg zeroM.cells.toArray) w := by kernel_rfl
theorem execOp_allocMT (ρ : Operand → Value) (dst : Option Tmp) (ty : TypeId) (pos : String) (after : Array Edge) (guard : Option (Nat × Bool)) :
    execOp ρ { dst, op := .alloc 75, type := ty, pos, after, guard } = (do pure (.value (← allocG 75))) := rfl
theorem run_allocMT (w : World) : (allocG 75).run Tryz.prog w = .ok (.pointer (some ⟨w.heap.size, 0, none⟩)) (w.alloc (.cells zeroM.cells.toArray 75)) := by
  unfold allocG
  simp [Instr.alloc, newVar, newRow, Value.cells, Result.andThen]
  rfl
theorem execOp_storeMT (ρ : Operand → Value) (dst : Option Tmp) (a x : Operand) (ty : TypeId) (pos : String) (after : Array Edge) (guard : Option (Nat × Bool)) :
    execOp ρ { dst, op := .store 75 a x, type := ty, pos, after, guard } = (do storeG 75 (ρ a) (ρ x); pure .skip) := rfl
def b8GT (a b c d e f g h : Value) : Sem Value := Instr.build 75 #[(0, a), (1, b), (2, c), (3, d), (4, e), (5, f), (6, g), (7, h)]
theorem execOp_b8T (ρ : Operand → Value) (dst : Option Tmp) (a b c d e f g h : Operand) (ty : TypeId) (pos : String) (after : Array Edge) (guard : Option (Nat × Bool)) :
    execOp ρ { dst, op := .build 75 #[(0, a), (1, b), (2, c), (3, d), (4, e), (5, f), (6, g), (7, h)], type := ty, pos, after, guard } = (do pure (.value (← b8GT (ρ a) (ρ b) (ρ c) (ρ d) (ρ e) (ρ f) (ρ g) (ρ h)))) := by simp [execOp, b8GT]
theorem run_b8T (m : MsgV) (w : World) : (b8GT (.int .i64 m.kind) (.int .i64 m.peer) (.int .i64 m.hops) (.bool m.high) (.slice m.pa m.pn m.pc) (.int .i64 m.number) (.int .u64 m.sum) (.agg m.mark.cells.toArray)).run Tryz.prog w =
    .ok (.agg m.bare2.cells.toArray) w := by kernel_rfl
attribute [local go_sem ↓] execOp_ldAny execOp_allocMT execOp_storeMT execOp_b8T
attribute [local go_sem] run_allocMT run_b8T

section
variable {W w : World} {R : List HP} {post : Ending → World → Prop} {m : MsgV} {ks : List MkV} {es : List EnV}

theorem msgRT {T : Nat} (s : St W w (row T 0 m.cells :: R)) :
    (loadG 3 (.pointer (some ⟨T, 0, none⟩))).run Tryz.prog w = .ok (.int .i64 m.kind) w ∧ (loadG 3 (.pointer (some ⟨T, 1, none⟩))).run Tryz.prog w = .ok (.int .i64 m.peer) w ∧
    (loadG 3 (.pointer (some ⟨T, 2, none⟩))).run Tryz.prog w = .ok (.int .i64 m.hops) w ∧ (loadG 4 (.pointer (some ⟨T, 3, none⟩))).run Tryz.prog w = .ok (.bool m.high) w ∧
    (loadG 24 (.pointer (some ⟨T, 4, none⟩))).run Tryz.prog w = .ok (.slice m.pa m.pn m.pc) w ∧ (loadG 3 (.pointer (some ⟨T, 5, none⟩))).run Tryz.prog w = .ok (.int .i64 m.number) w ∧
    (loadG 50 (.pointer (some ⟨T, 6, none⟩))).run Tryz.prog w = .ok (.int .u64 m.sum) w ∧ (loadG 54 (.pointer (some ⟨T, 7, none⟩))).run Tryz.prog w = .ok (.agg #[.int .i64 m.mc, .int .i64 m.ms, .string m.key]) w := by
  obtain ⟨c0, c1, c2, c3, c4, c5, c6, _⟩ := boxM s
  refine ⟨run_ldP (by kernel_rfl) c0, run_ldP (by kernel_rfl) c1, run_ldP (by kernel_rfl) c2, run_ldP (by kernel_rfl) c3, run_ldP (by kernel_rfl) c4, run_ldP (by kernel_rfl) c5, run_ldP (by kernel_rfl) c6, ?_⟩
  exact run_loadG (o := 0 + 7) agg_mk (vs := [.int .i64 m.mc, .int .i64 m.ms, .string m.key]) rfl (St.rowPart s 7 (xs := [.int .i64 m.mc, .int .i64 m.ms, .string m.key]) (ys := [.slice m.ma m.mn m.mq, .slice m.ea m.en m.eq]) rfl)
theorem room_newT (w : World) : roomG (w.alloc (.cells zeroM.cells.toArray 75)) w.heap.size 0 12 := St.roomG ((St.init w).alloc zeroM.cells.toArray 75) rfl

theorem msgSt {T : Nat} (s : St W w (row T 0 m.cells :: R)) :
    (loadG 55 (.pointer (some ⟨T, 10, none⟩))).run Tryz.prog w = .ok (.slice m.ma m.mn m.mq) w ∧ (loadG 56 (.pointer (some ⟨T, 11, none⟩))).run Tryz.prog w = .ok (.slice m.ea m.en m.eq) w := by
  obtain ⟨_, _, _, _, _, _, _, _, _, _, c8, c9⟩ := boxM s
  exact ⟨run_ldP (by kernel_rfl) c8, run_ldP (by kernel_rfl) c9⟩

set_option maxRecDepth 100000 in
set_option maxHeartbeats 8000000 in
theorem msgTo0_c (st : St W w R) (hz : m.mn = 0 ∧ m.en = 0)
    (K : ∀ w', St W w' R → post (.returned (.agg m.bare2.cells.toArray)) w') :
    Calls Tryz.prog 61 #[.agg m.cells.toArray] w post := by
  have HK := hid K; clear K
  have HZ := hid hz
  clear hz
  go_enter Tryz.func61, Tryz.ntmps61
  go_wp2_with (first
    | (refine wpl_boxA (vs := m.cells) rfl (.tmp 0) rfl rfl st ?_; rintro T w1 s1)
    | (refine wpl_allocA rfl rfl zeroRM s1 ?_; rintro E w2 s2))
  simp only [Act.put, List.setIfInBounds_toArray, List.set_cons_succ, List.set_cons_zero]
  have u : St W w2.drew (row T 0 m.cells :: row E 0 zeroM.cells :: R) := (St.pick 1 s2).drew
  go_cut [3] (fun p wx => ∃ B, p = .pointer (some ⟨B, 0, none⟩) ∧ St W wx (row B 0 m.bare2.cells :: row T 0 m.cells :: row E 0 zeroM.cells :: R))
  case first =>
    have gA := msgRT u
    have u2 := ((St.pick 1 s2).alloc zeroM.cells.toArray 75).drew
    have gB := msgRT (St.pick 1 u2)
    have HR := hid room_newT
    have hone : oneG m.bare2.cells 12 := ⟨rfl, msg_one _⟩
    have agg12 := aggRM
    have rA := run_storeG agg12 (b := w2.heap.size) (o := 0) (u2.roomG rfl) hone
    go_region_held3 (fun w' => (loadG 3 (.pointer (some ⟨T, 0, none⟩))).run Tryz.prog w' = .ok (.int .i64 m.kind) w' ∧ (loadG 3 (.pointer (some ⟨T, 1, none⟩))).run Tryz.prog w' = .ok (.int .i64 m.peer) w' ∧
      (loadG 3 (.pointer (some ⟨T, 2, none⟩))).run Tryz.prog w' = .ok (.int .i64 m.hops) w' ∧ (loadG 4 (.pointer (some ⟨T, 3, none⟩))).run Tryz.prog w' = .ok (.bool m.high) w' ∧
      (loadG 24 (.pointer (some ⟨T, 4, none⟩))).run Tryz.prog w' = .ok (.slice m.pa m.pn m.pc) w' ∧ (loadG 3 (.pointer (some ⟨T, 5, none⟩))).run Tryz.prog w' = .ok (.int .i64 m.number) w' ∧
      (loadG 50 (.pointer (some ⟨T, 6, none⟩))).run Tryz.prog w' = .ok (.int .u64 m.sum) w' ∧ (loadG 54 (.pointer (some ⟨T, 7, none⟩))).run Tryz.prog w' = .ok (.agg #[.int .i64 m.mc, .int .i64 m.ms, .string m.key]) w')
      (first
        | with_reducible exact gE
        | with_reducible exact gD
        | with_reducible exact gC
        | with_reducible exact gB
        | with_reducible exact gA)
      (first
        | (go_at_call 105; first
            | (refine mkTo_c (m := m.mark) u ?_; rintro w5 s5; have gC := msgRT s5; have u5 := s5.alloc zeroM.cells.toArray 75; have gD := msgRT (St.pick 1 u5); have rB := run_storeG agg12 (b := w5.heap.size) (o := 0) (u5.roomG rfl) hone; have u6 := u5.setAll (vs := m.bare2.cells) rfl; have gE := msgRT (St.pick 1 u6))
            | (refine mkTo_c (m := m.mark) u2 ?_; rintro w5 s5; have gC := msgRT (St.pick 1 s5); have rB := run_storeG agg12 (b := w2.heap.size) (o := 0) (s5.roomG rfl) hone; have u6 := s5.setAll (vs := m.bare2.cells) rfl; have gE := msgRT (St.pick 1 u6))))
    all_goals
      go_wp2_with fail
      go_meet
      case rel => exact ⟨_, rfl, u6⟩
  case rest =>
    obtain ⟨B, rfl, s6⟩ := hcut
    obtain ⟨l8, l9⟩ := msgSt (St.pick 1 s6)
    rw [HZ.out.1] at l8
    rw [HZ.out.2] at l9
    go_wp2_with fail
    go_loopw [29] (fun ii wr => ii = .int .i64 0 ∧ St W wr (row B 0 m.bare2.cells :: row T 0 m.cells :: row E 0 zeroM.cells :: R)) (fun _ _ => 0)
    case atStart => exact ⟨rfl, s6⟩
    case round =>
      obtain ⟨rfl, sr⟩ := hrel
      obtain ⟨m8, m9⟩ := msgSt (St.pick 1 sr)
      rw [HZ.out.2] at m9
      go_wp2_with fail
      go_loopw [44] (fun ii wr => ii = .int .i64 0 ∧ St W wr (row B 0 m.bare2.cells :: row T 0 m.cells :: row E 0 zeroM.cells :: R)) (fun _ _ => 0)
      case atStart => exact ⟨rfl, sr⟩
      case round =>
        obtain ⟨rfl, sq⟩ := hrel
        have f58 : (loadG 75 (.pointer (some ⟨B, 0, none⟩))).run Tryz.prog _ = .ok (.agg m.bare2.cells.toArray) _ := run_loadG (o := 0) aggRM rfl sq.rowAll
        go_wp2_with (refine wpl_storeA (vs := m.bare2.cells) rfl (.tmp 2) (.tmp 56) (by rfl) aggRM (by rfl) (by rfl) rfl (msg_one _) (St.pick 2 sq) rfl ?_; rintro wZ sZ)
        have hL := run_loadA aggRM rfl sZ.rowAll
        exact bodyPost_ret (v := .agg m.bare2.cells.toArray) (by simp [results, Tryz.results61, asAddr, hL, Act.put]) rfl (HK.out _ (sZ.dropN 3))
end

end Go.Proofs.YtbpdchaeakihkaaGreat
