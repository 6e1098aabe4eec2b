/- wire: Good, for the kinds without marks and entries. Printed by mkWireH.py. -/
import Derived.Test.YtbpdchaeakihkaaGreatGoods
import Derived.Test.YtbpdchaeakihkaaGreatLib
namespace Go.Proofs.YtbpdchaeakihkaaGreat
open Go.RowKit Go.Qd

/-- May a message of a kind without marks and entries be? -/
def goodB (m : MsgV) (k : Nat) : Bool := sameB (bareM m k) k && (wnodeB m.peer && (decide (0 ≤ m.hops) && (decide (m.hops ≤ 8) && (allB m.pn m.ps && (decide (m.mn = 0) && decide (m.en = 0))))))

theorem bareN_rest {m : MsgV} {k : Nat} (h4 : bitF k 4 = false) (h6 : bitF k 6 = false) : (bareM m k).number = m.number ∧ (bareM m k).mc = m.mc ∧ (bareM m k).ms = m.ms ∧ (bareM m k).key = m.key := by
  simp only [bareM, bareN, h4, h6]
  cases bitF k 0 <;> cases bitF k 1 <;> cases bitF k 2 <;> cases bitF k 3 <;> cases bitF k 5 <;> exact ⟨rfl, rfl, rfl, rfl⟩
theorem bits9 {k : Nat} (h : k ≤ 9) : bitF k 4 = false ∧ bitF k 6 = false := by
  match k, h with
  | 0, _ => decide
  | 1, _ => decide
  | 2, _ => decide
  | 3, _ => decide
  | 4, _ => decide
  | 5, _ => decide
  | 6, _ => decide
  | 7, _ => decide
  | 8, _ => decide
  | 9, _ => decide
  | n + 10, h => exact absurd h (by omega)
theorem same_rest {m : MsgV} {k : Nat} (h9 : k ≤ 9) (h : sameB (bareM m k) k = true) : m.number = 0 ∧ m.mc = 0 ∧ m.ms = 0 ∧ m.key.toList = [] := by
  obtain ⟨e1, e2, e3, e4⟩ := bareN_rest (m := m) (bits9 h9).1 (bits9 h9).2
  simp only [sameB, e1, e2, e3, e4, Bool.and_eq_true, decide_eq_true_eq, beq_iff_eq] at h
  exact ⟨h.2.2.2.2.1, h.2.2.2.2.2.2.1, h.2.2.2.2.2.2.2.1, h.2.2.2.2.2.2.2.2.1⟩
theorem formC9 {k : Nat} (h : k ≤ 9) : ∃ v, formC k = [v, .int .i64 (fieldsF k), .int .i64 0, .int .i64 0, .int .i64 0, .int .i64 0] := by
  match k, h with
  | 0, _ => exact ⟨_, rfl⟩
  | 1, _ => exact ⟨_, rfl⟩
  | 2, _ => exact ⟨_, rfl⟩
  | 3, _ => exact ⟨_, rfl⟩
  | 4, _ => exact ⟨_, rfl⟩
  | 5, _ => exact ⟨_, rfl⟩
  | 6, _ => exact ⟨_, rfl⟩
  | 7, _ => exact ⟨_, rfl⟩
  | 8, _ => exact ⟨_, rfl⟩
  | 9, _ => exact ⟨_, rfl⟩
  | n + 10, h => exact absurd h (by omega)

def b58G (x : Value) : Sem Value := Instr.build 58 #[(0, x)]
def b54G : Sem Value := Instr.build 54 #[]
def b193G (x y : Value) : Sem Value := Instr.build 193 #[(0, x), (1, y)]
theorem execOp_b58 (ρ : Operand → Value) (dst : Option Tmp) (a : Operand) (ty : TypeId) (pos : String) (after : Array Edge) (guard : Option (Nat × Bool)) :
    execOp ρ { dst, op := .build 58 #[(0, a)], type := ty, pos, after, guard } = (do pure (.value (← b58G (ρ a)))) := by simp [execOp, b58G]
theorem execOp_b54 (ρ : Operand → Value) (dst : Option Tmp) (ty : TypeId) (pos : String) (after : Array Edge) (guard : Option (Nat × Bool)) :
    execOp ρ { dst, op := .build 54 #[], type := ty, pos, after, guard } = (do pure (.value (← b54G))) := by simp [execOp, b54G]
theorem execOp_b193 (ρ : Operand → Value) (dst : Option Tmp) (a c : Operand) (ty : TypeId) (pos : String) (after : Array Edge) (guard : Option (Nat × Bool)) :
    execOp ρ { dst, op := .build 193 #[(0, a), (1, c)], type := ty, pos, after, guard } = (do pure (.value (← b193G (ρ a) (ρ c)))) := by simp [execOp, b193G]
theorem run_b58 (k : Int) (w : World) : (b58G (.int .i64 k)).run Tryz.prog w = .ok (.agg (kindM k).cells.toArray) w := by kernel_rfl
theorem run_b54 (w : World) : b54G.run Tryz.prog w = .ok (.agg #[.int .i64 0, .int .i64 0, .string ByteArray.empty]) w := by kernel_rfl
theorem run_b193 (x y : Int) (w : World) : (b193G (.int .i64 x) (.int .i64 y)).run Tryz.prog w = .ok (twoI x y) w := by kernel_rfl
attribute [local go_sem ↓] execOp_loadAny execOp_b58 execOp_b54 execOp_b193
attribute [local go_sem] run_b58 run_b54 run_b193

section
variable {W w : World} {R : List HP} {post : Ending → World → Prop} {m : MsgV}

theorem formLd {F k : Nat} (h9 : k ≤ 9) (s : St W w (row F 0 (formC k) :: R)) :
    (loadG 192 (.pointer (some ⟨F, 1, none⟩))).run Tryz.prog w = .ok (.int .i64 (fieldsF k)) w ∧
    (loadG 193 (.pointer (some ⟨F, 2, none⟩))).run Tryz.prog w = .ok (twoI 0 0) w ∧ (loadG 193 (.pointer (some ⟨F, 4, none⟩))).run Tryz.prog w = .ok (twoI 0 0) w := by
  obtain ⟨v, hv⟩ := formC9 h9
  rw [hv] at s
  refine ⟨?_, ?_, ?_⟩
  · have c1 := s.rowCell (i := 1) (v := .int .i64 (fieldsF k)) rfl
    rw [Nat.zero_add] at c1
    exact run_load1 (by kernel_rfl) c1
  · exact run_loadG (o := 0 + 2) agg193 (vs := [.int .i64 0, .int .i64 0]) rfl (St.rowPart s 2 (xs := [.int .i64 0, .int .i64 0]) (ys := [.int .i64 0, .int .i64 0]) rfl)
  · exact run_loadG (o := 0 + 4) agg193 (vs := [.int .i64 0, .int .i64 0]) rfl (St.rowPart s 4 (xs := [.int .i64 0, .int .i64 0]) (ys := []) rfl)

set_option maxRecDepth 100000 in
set_option maxHeartbeats 16000000 in
theorem good_c {k : Nat} (h1 : 1 ≤ k) (h9 : k ≤ 9) (hk : m.kind = k) (hp : Rds W R 1 m.pa m.pn m.pc (ivs m.ps)) (hn : m.pn ≤ 4096) (st : St W w R)
    (K : ∀ w', St W w' R → post (.returned (.int .i64 (if goodB m k then 0 else 4))) w') : Calls Tryz.prog 93 #[.agg m.cells.toArray] w post := by
  have HK9 := hid h9
  have HP1 := hid hp
  have HN := hid hn
  have H20 : Hid (k < 20) := hid (by omega)
  have H1 := hid h1
  have HL := hid (formC_len (k := k) (by omega))
  have HO := hid (formC_one k)
  clear hp hn h1
  go_enter Tryz.func93, Tryz.ntmps93
  go_wp2_with (first
    | (replace st := hid st; refine wpl_boxA (vs := m.cells) rfl (.tmp 0) rfl rfl st.out ?_; rintro T w1 s1; have l0 := (msgL s1).1; rw [hk] at l0; clear st)
    | (go_at_call 140; refine formOf_yes s1 H1.out H20.out ?_; rintro w2 s2; clear s1 l0)
    | (replace s2 := hid s2; refine wpl_allocA rfl rfl zero195 s2.out ?_; rintro F w3 s3; clear s2)
    | (replace s3 := hid s3; refine wpl_storeA (vs := formC k) rfl (.tmp 3) (.tmp 9) (by rfl) agg195 (by rfl) (by rfl) HL.out HO.out s3.out (by simp) ?_; rintro w4 s4; clear s3))
  have s5 : St W w4 (row T 0 m.cells :: row F 0 (formC k) :: R) := s4.perm [1]
  clear s4
  have hN : Nonempty (Cls fun w' => St W w' (row T 0 m.cells :: row F 0 (formC k) :: R)) := Cls.inh s5.drew
  have f0 : ∀ s : Cls fun w' => St W w' (row T 0 m.cells :: row F 0 (formC k) :: R), (loadG 58 (.pointer (some ⟨T, 0, none⟩))).run Tryz.prog s.w = .ok (.agg m.cells.toArray) s.w := fun s => lg58 s.h
  have f1 : ∀ s : Cls fun w' => St W w' (row T 0 m.cells :: row F 0 (formC k) :: R), (loadG 3 (.pointer (some ⟨T, 0, none⟩))).run Tryz.prog s.w = .ok (.int .i64 k) s.w := fun s => hk ▸ (msgL s.h).1
  have f2 : ∀ s : Cls fun w' => St W w' (row T 0 m.cells :: row F 0 (formC k) :: R), (loadG 3 (.pointer (some ⟨T, 1, none⟩))).run Tryz.prog s.w = .ok (.int .i64 m.peer) s.w := fun s => (msgL s.h).2.1
  have f3 : ∀ s : Cls fun w' => St W w' (row T 0 m.cells :: row F 0 (formC k) :: R), (loadG 3 (.pointer (some ⟨T, 2, none⟩))).run Tryz.prog s.w = .ok (.int .i64 m.hops) s.w := fun s => (msgL s.h).2.2.1
  have f4 : ∀ s : Cls fun w' => St W w' (row T 0 m.cells :: row F 0 (formC k) :: R), (loadG 24 (.pointer (some ⟨T, 4, none⟩))).run Tryz.prog s.w = .ok (.slice m.pa m.pn m.pc) s.w := fun s => (msgL s.h).2.2.2.2.1
  have f5 : ∀ s : Cls fun w' => St W w' (row T 0 m.cells :: row F 0 (formC k) :: R), (loadG 3 (.pointer (some ⟨T, 5, none⟩))).run Tryz.prog s.w = .ok (.int .i64 m.number) s.w := fun s => (msgL s.h).2.2.2.2.2.1
  have f7 : ∀ s : Cls fun w' => St W w' (row T 0 m.cells :: row F 0 (formC k) :: R), (loadG 54 (.pointer (some ⟨T, 7, none⟩))).run Tryz.prog s.w = .ok (.agg #[.int .i64 m.mc, .int .i64 m.ms, .string m.key]) s.w := fun s => (msgL s.h).2.2.2.2.2.2.2.1
  have f8 : ∀ s : Cls fun w' => St W w' (row T 0 m.cells :: row F 0 (formC k) :: R), (loadG 55 (.pointer (some ⟨T, 10, none⟩))).run Tryz.prog s.w = .ok (.slice m.ma m.mn m.mq) s.w := fun s => (msgL s.h).2.2.2.2.2.2.2.2.1
  have f9 : ∀ s : Cls fun w' => St W w' (row T 0 m.cells :: row F 0 (formC k) :: R), (loadG 56 (.pointer (some ⟨T, 11, none⟩))).run Tryz.prog s.w = .ok (.slice m.ea m.en m.eq) s.w := fun s => (msgL s.h).2.2.2.2.2.2.2.2.2
  have g1 : ∀ s : Cls fun w' => St W w' (row T 0 m.cells :: row F 0 (formC k) :: R), (loadG 192 (.pointer (some ⟨F, 1, none⟩))).run Tryz.prog s.w = .ok (.int .i64 (fieldsF k)) s.w := fun s => (formLd HK9.out s.h.drop).1
  have g2 : ∀ s : Cls fun w' => St W w' (row T 0 m.cells :: row F 0 (formC k) :: R), (loadG 193 (.pointer (some ⟨F, 2, none⟩))).run Tryz.prog s.w = .ok (twoI 0 0) s.w := fun s => (formLd HK9.out s.h.drop).2.1
  have g3 : ∀ s : Cls fun w' => St W w' (row T 0 m.cells :: row F 0 (formC k) :: R), (loadG 193 (.pointer (some ⟨F, 4, none⟩))).run Tryz.prog s.w = .ok (twoI 0 0) s.w := fun s => (formLd HK9.out s.h.drop).2.2
  clear hk h9
  obtain ⟨b0, e0⟩ : ∃ b, sameB (bareM m k) k = b := ⟨_, rfl⟩
  have HSB := hid e0; clear e0
  obtain ⟨b1, e1⟩ : ∃ b, wnodeB m.peer = b := ⟨_, rfl⟩
  have HNB := hid e1; clear e1
  obtain ⟨b2, e2⟩ : ∃ b, decide (0 ≤ m.hops) = b := ⟨_, rfl⟩
  have H0 := hid e2
  obtain ⟨b3, e3⟩ : ∃ b, decide (m.hops ≤ 8) = b := ⟨_, rfl⟩
  have H8 := hid e3
  obtain ⟨b4, e4⟩ : ∃ b, allB m.pn m.ps = b := ⟨_, rfl⟩
  have HAB := hid e4; clear e4
  obtain ⟨b5, e5⟩ : ∃ b, decide (m.mn = 0) = b := ⟨_, rfl⟩
  have HM0 := hid e5; clear e5
  obtain ⟨b6, e6⟩ : ∃ b, decide (m.en = 0) = b := ⟨_, rfl⟩
  have HE0 := hid e6; clear e6
  have HR : Hid (b0 = true → m.number = 0 ∧ m.mc = 0 ∧ m.ms = 0 ∧ m.key.toList = []) := hid fun h => same_rest HK9.out (by rw [HSB.out, h])
  have HG : Hid (goodB m k = (b0 && (b1 && (b2 && (b3 && (b4 && (b5 && b6))))))) := hid (by unfold goodB; rw [HSB.out, HNB.out, H0.out, H8.out, HAB.out, HM0.out, HE0.out])
  have HK := hid K; clear K
  refine wp_region_class (fun w' => St W w' (row T 0 m.cells :: row F 0 (formC k) :: R)) (by kernel_rfl) (by kernel_rfl) s5.drew ?_
  dsimp only [List.append]
  iterate 9 (go_big_quiet_step ((rename_i s; first
    | (go_at_call 142; refine bare_c H20.out s.h ?_; rintro w2 s2; exact Cls.end _ s2)
    | (go_at_call 141; refine wsame_c ⟨rfl, rfl, rfl, rfl, rfl, rfl⟩ s.h ?_; rintro w2 s2; rw [HSB.out]; exact Cls.end _ s2))))
  cases b0 with
  | false =>
    have HG2 : Hid (goodB m k = false) := hid (by rw [HG.out]; rfl)
    rw [HG2.out] at HK
    repeat (go_big_quiet_step (fail))
    refine wpQuiet_nil ?_
    rintro ⟨w6, s6⟩
    dsimp only
    go_wp2_with fail
    exact HK.out _ (by exact s6.dropN 2)
  | true =>
    obtain ⟨r1, r2, r3, r4⟩ := HR.out rfl
    rw [r1] at f5
    repeat (go_big_quiet_step ((rename_i s; (go_at_call 143; refine wnode_c ?_; rw [HNB.out]; exact Cls.end _ s.h))))
    cases b1 with
    | false =>
      have HG2 : Hid (goodB m k = false) := hid (by rw [HG.out]; rfl)
      rw [HG2.out] at HK
      repeat (go_big_quiet_step (fail))
      refine wpQuiet_nil ?_
      rintro ⟨w6, s6⟩
      dsimp only
      go_wp2_with fail
      exact HK.out _ (by exact s6.dropN 2)
    | true =>
      repeat (go_big_quiet_step ((rename_i s; fail)))
      cases b2 with
      | false =>
        have HG2 : Hid (goodB m k = false) := hid (by rw [HG.out]; rfl)
        rw [HG2.out] at HK
        repeat (go_big_quiet_step (fail))
        refine wpQuiet_nil ?_
        rintro ⟨w6, s6⟩
        dsimp only
        go_wp2_with fail
        exact HK.out _ (by exact s6.dropN 2)
      | true =>
        repeat (go_big_quiet_step ((rename_i s; fail)))
        cases b3 with
        | false =>
          have HG2 : Hid (goodB m k = false) := hid (by rw [HG.out]; rfl)
          rw [HG2.out] at HK
          repeat (go_big_quiet_step (fail))
          refine wpQuiet_nil ?_
          rintro ⟨w6, s6⟩
          dsimp only
          go_wp2_with fail
          exact HK.out _ (by exact s6.dropN 2)
        | true =>
          repeat (go_big_quiet_step ((rename_i s; (go_at_call 145; refine all145_c HP1.out.cons.cons HN.out s.h ?_; rintro w2 s2; rw [HAB.out]; exact Cls.end _ s2))))
          cases b4 with
          | false =>
            have HG2 : Hid (goodB m k = false) := hid (by rw [HG.out]; rfl)
            rw [HG2.out] at HK
            repeat (go_big_quiet_step (fail))
            refine wpQuiet_nil ?_
            rintro ⟨w6, s6⟩
            dsimp only
            go_wp2_with fail
            exact HK.out _ (by exact s6.dropN 2)
          | true =>
            repeat (go_big_quiet_step ((rename_i s; (go_at_call 146; refine all146_c s.h ?_; rintro w2 s2; rw [HM0.out]; exact Cls.end _ s2))))
            cases b5 with
            | false =>
              have HG2 : Hid (goodB m k = false) := hid (by rw [HG.out]; rfl)
              rw [HG2.out] at HK
              repeat (go_big_quiet_step (fail))
              refine wpQuiet_nil ?_
              rintro ⟨w6, s6⟩
              dsimp only
              go_wp2_with fail
              exact HK.out _ (by exact s6.dropN 2)
            | true =>
              repeat (go_big_quiet_step ((rename_i s; (go_at_call 147; refine all147_c s.h ?_; rintro w2 s2; rw [HE0.out]; exact Cls.end _ s2))))
              cases b6 with
              | false =>
                have HG2 : Hid (goodB m k = false) := hid (by rw [HG.out]; rfl)
                rw [HG2.out] at HK
                repeat (go_big_quiet_step (fail))
                refine wpQuiet_nil ?_
                rintro ⟨w6, s6⟩
                dsimp only
                go_wp2_with fail
                exact HK.out _ (by exact s6.dropN 2)
              | true =>
                have HG2 : Hid (goodB m k = true) := hid (by rw [HG.out]; rfl)
                rw [HG2.out] at HK
                repeat (go_big_quiet_step (fail))
                refine wpQuiet_nil ?_
                rintro ⟨w6, s6⟩
                dsimp only
                go_wp2_with fail
                exact HK.out _ (by exact s6.dropN 2)
end

end Go.Proofs.YtbpdchaeakihkaaGreat
