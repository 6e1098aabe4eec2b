/- wire: Good, for whatever kind. Printed by mkWireI.py. -/
import Derived.Test.YtbpdchaeakihkaaGreatWireH
import Derived.Test.YtbpdchaeakihkaaGreatMarks
namespace Go.Proofs.YtbpdchaeakihkaaGreat
open Go.RowKit Go.Qd

def loM (k : Nat) : Int := if k = 11 then 1 else if k = 12 then 1 else 0
def hiM (k : Nat) : Int := if k = 11 then 8 else if k = 15 then 8 else if k = 12 then 1 else 0
def loE (k : Nat) : Int := if k = 10 then 1 else if k = 14 then 1 else 0
def hiE (k : Nat) : Int := if k = 10 then 1 else if 14 ≤ k then 8 else 0
theorem formC20 {k : Nat} (h : k < 20) : ∃ v, formC k = [v, .int .i64 (fieldsF k), .int .i64 (loM k), .int .i64 (hiM k), .int .i64 (loE k), .int .i64 (hiE k)] := by
  match k, h with
  | 0, _ => exact ⟨_, rfl⟩
  | 1, _ => exact ⟨_, rfl⟩
  | 2, _ => exact ⟨_, rfl⟩
  | 3, _ => exact ⟨_, rfl⟩
  | 4, _ => exact ⟨_, rfl⟩
  | 5, _ => exact ⟨_, rfl⟩
  | 6, _ => exact ⟨_, rfl⟩
  | 7, _ => exact ⟨_, rfl⟩
  | 8, _ => exact ⟨_, rfl⟩
  | 9, _ => exact ⟨_, rfl⟩
  | 10, _ => exact ⟨_, rfl⟩
  | 11, _ => exact ⟨_, rfl⟩
  | 12, _ => exact ⟨_, rfl⟩
  | 13, _ => exact ⟨_, rfl⟩
  | 14, _ => exact ⟨_, rfl⟩
  | 15, _ => exact ⟨_, rfl⟩
  | 16, _ => exact ⟨_, rfl⟩
  | 17, _ => exact ⟨_, rfl⟩
  | 18, _ => exact ⟨_, rfl⟩
  | 19, _ => exact ⟨_, rfl⟩
  | n + 20, h => exact absurd h (by omega)
def MsgV.mark (m : MsgV) : MkV := ⟨m.mc, m.ms, m.key⟩
def mzB (m : MsgV) : Bool := decide (m.mc = 0) && (decide (m.ms = 0) && m.key.toList.isEmpty)
/-- May a message be? -/
def goodX (m : MsgV) (k : Nat) (ks : List MkV) (es : List EnV) : Bool :=
  sameB (bareM m k) k && (wnodeB m.peer && (decide (0 ≤ m.hops) && (decide (m.hops ≤ 8) && (decide (0 ≤ m.number) && (decide (m.number ≤ 4294967295) && ((mzB m || markB m.mark) && (allB m.pn m.ps && (mkCAll (loM k) (hiM k) ks && enCAll (loE k) (hiE k) es))))))))

def eqMG (x y : Operand) (a b : Value) : Sem Value := do eqGuard .eql 54 x y a b; Go.binOp .eql 54 a b
theorem execOp_eqM (ρ : Operand → Value) (dst : Option Tmp) (x y : Operand) (r : TypeId) (ty : TypeId) (pos : String) (after : Array Edge) (guard : Option (Nat × Bool)) :
    execOp ρ { dst, op := .binOp .eql 54 x y r, type := ty, pos, after, guard } = (do pure (.value (← eqMG x y (ρ x) (ρ y)))) := by simp [execOp, eqMG]
theorem run_eqM (x y : Operand) (m : MsgV) (w : World) : (eqMG x y (.agg #[.int .i64 m.mc, .int .i64 m.ms, .string m.key]) (.agg #[.int .i64 0, .int .i64 0, .string ByteArray.empty])).run Tryz.prog w = .ok (.bool (mzB m)) w := by
  unfold eqMG mzB
  go_simp
  by_cases h1 : m.mc = 0
  · by_cases h2 : m.ms = 0
    · by_cases h3 : m.key.toList = []
      · simp [h1, h2, h3]
      · simp [h1, h2, h3]
    · simp [h1, h2]
  · simp [h1]
attribute [local go_sem ↓] execOp_loadAny execOp_b58 execOp_b54 execOp_b193 execOp_eqM
attribute [local go_sem] run_b58 run_b54 run_b193 run_eqM

section
variable {W w : World} {R : List HP} {post : Ending → World → Prop} {m : MsgV} {ks : List MkV} {es : List EnV}

theorem formLd20 {F k : Nat} (h9 : k < 20) (s : St W w (row F 0 (formC k) :: R)) :
    (loadG 192 (.pointer (some ⟨F, 1, none⟩))).run Tryz.prog w = .ok (.int .i64 (fieldsF k)) w ∧
    (loadG 193 (.pointer (some ⟨F, 2, none⟩))).run Tryz.prog w = .ok (two2 (loM k) (hiM k)) w ∧ (loadG 193 (.pointer (some ⟨F, 4, none⟩))).run Tryz.prog w = .ok (two2 (loE k) (hiE k)) w := by
  obtain ⟨v, hv⟩ := formC20 h9
  rw [hv] at s
  refine ⟨?_, ?_, ?_⟩
  · have c1 := s.rowCell (i := 1) (v := .int .i64 (fieldsF k)) rfl
    rw [Nat.zero_add] at c1
    exact run_load1 (by kernel_rfl) c1
  · exact run_loadG (o := 0 + 2) agg193 (vs := [.int .i64 (loM k), .int .i64 (hiM k)]) rfl (St.rowPart s 2 (xs := [.int .i64 (loM k), .int .i64 (hiM k)]) (ys := [.int .i64 (loE k), .int .i64 (hiE k)]) rfl)
  · exact run_loadG (o := 0 + 4) agg193 (vs := [.int .i64 (loE k), .int .i64 (hiE k)]) rfl (St.rowPart s 4 (xs := [.int .i64 (loE k), .int .i64 (hiE k)]) (ys := []) rfl)

set_option maxRecDepth 100000 in
set_option maxHeartbeats 16000000 in
theorem goodx_c {k : Nat} (h1 : 1 ≤ k) (h9 : k < 20) (hk : m.kind = k) (hp : Rds W R 1 m.pa m.pn m.pc (ivs m.ps)) (hn : m.pn ≤ 4096) (hpM : Rds W R 3 m.ma m.mn m.mq (mkC ks)) (hnM : m.mn ≤ 4096)
    (hpE : Rds W R 9 m.ea m.en m.eq (enC es)) (hnE : m.en ≤ 4096) (st : St W w R)
    (K : ∀ w', St W w' R → post (.returned (.int .i64 (if goodX m k ks es then 0 else 4))) w') : Calls Tryz.prog 93 #[.agg m.cells.toArray] w post := by
  have HP1 := hid hp; have HPM := hid hpM; have HPE := hid hpE
  have HN := hid hn; have HNM := hid hnM; have HNE := hid hnE
  have H20 : Hid (k < 20) := hid h9
  have H1 := hid h1
  have HL := hid (formC_len (k := k) (by omega))
  have HO := hid (formC_one k)
  clear hp hn h1 hpM hpE hnM hnE
  go_enter Tryz.func93, Tryz.ntmps93
  go_wp2_with (first
    | (replace st := hid st; refine wpl_boxA (vs := m.cells) rfl (.tmp 0) rfl rfl st.out ?_; rintro T w1 s1; have l0 := (msgL s1).1; rw [hk] at l0; clear st)
    | (go_at_call 140; refine formOf_yes s1 H1.out H20.out ?_; rintro w2 s2; clear s1 l0)
    | (replace s2 := hid s2; refine wpl_allocA rfl rfl zero195 s2.out ?_; rintro F w3 s3; clear s2)
    | (replace s3 := hid s3; refine wpl_storeA (vs := formC k) rfl (.tmp 3) (.tmp 9) (by rfl) agg195 (by rfl) (by rfl) HL.out HO.out s3.out (by simp) ?_; rintro w4 s4; clear s3))
  have s5 : St W w4 (row T 0 m.cells :: row F 0 (formC k) :: R) := s4.perm [1]
  clear s4
  have hN : Nonempty (Cls fun w' => St W w' (row T 0 m.cells :: row F 0 (formC k) :: R)) := Cls.inh s5.drew
  have f0 : ∀ s : Cls fun w' => St W w' (row T 0 m.cells :: row F 0 (formC k) :: R), (loadG 58 (.pointer (some ⟨T, 0, none⟩))).run Tryz.prog s.w = .ok (.agg m.cells.toArray) s.w := fun s => lg58 s.h
  have f1 : ∀ s : Cls fun w' => St W w' (row T 0 m.cells :: row F 0 (formC k) :: R), (loadG 3 (.pointer (some ⟨T, 0, none⟩))).run Tryz.prog s.w = .ok (.int .i64 k) s.w := fun s => hk ▸ (msgL s.h).1
  have f2 : ∀ s : Cls fun w' => St W w' (row T 0 m.cells :: row F 0 (formC k) :: R), (loadG 3 (.pointer (some ⟨T, 1, none⟩))).run Tryz.prog s.w = .ok (.int .i64 m.peer) s.w := fun s => (msgL s.h).2.1
  have f3 : ∀ s : Cls fun w' => St W w' (row T 0 m.cells :: row F 0 (formC k) :: R), (loadG 3 (.pointer (some ⟨T, 2, none⟩))).run Tryz.prog s.w = .ok (.int .i64 m.hops) s.w := fun s => (msgL s.h).2.2.1
  have f4 : ∀ s : Cls fun w' => St W w' (row T 0 m.cells :: row F 0 (formC k) :: R), (loadG 24 (.pointer (some ⟨T, 4, none⟩))).run Tryz.prog s.w = .ok (.slice m.pa m.pn m.pc) s.w := fun s => (msgL s.h).2.2.2.2.1
  have f5 : ∀ s : Cls fun w' => St W w' (row T 0 m.cells :: row F 0 (formC k) :: R), (loadG 3 (.pointer (some ⟨T, 5, none⟩))).run Tryz.prog s.w = .ok (.int .i64 m.number) s.w := fun s => (msgL s.h).2.2.2.2.2.1
  have f7 : ∀ s : Cls fun w' => St W w' (row T 0 m.cells :: row F 0 (formC k) :: R), (loadG 54 (.pointer (some ⟨T, 7, none⟩))).run Tryz.prog s.w = .ok (.agg #[.int .i64 m.mc, .int .i64 m.ms, .string m.key]) s.w := fun s => (msgL s.h).2.2.2.2.2.2.2.1
  have f8 : ∀ s : Cls fun w' => St W w' (row T 0 m.cells :: row F 0 (formC k) :: R), (loadG 55 (.pointer (some ⟨T, 10, none⟩))).run Tryz.prog s.w = .ok (.slice m.ma m.mn m.mq) s.w := fun s => (msgL s.h).2.2.2.2.2.2.2.2.1
  have f9 : ∀ s : Cls fun w' => St W w' (row T 0 m.cells :: row F 0 (formC k) :: R), (loadG 56 (.pointer (some ⟨T, 11, none⟩))).run Tryz.prog s.w = .ok (.slice m.ea m.en m.eq) s.w := fun s => (msgL s.h).2.2.2.2.2.2.2.2.2
  have g1 : ∀ s : Cls fun w' => St W w' (row T 0 m.cells :: row F 0 (formC k) :: R), (loadG 192 (.pointer (some ⟨F, 1, none⟩))).run Tryz.prog s.w = .ok (.int .i64 (fieldsF k)) s.w := fun s => (formLd20 H20.out s.h.drop).1
  have g2 : ∀ s : Cls fun w' => St W w' (row T 0 m.cells :: row F 0 (formC k) :: R), (loadG 193 (.pointer (some ⟨F, 2, none⟩))).run Tryz.prog s.w = .ok (two2 (loM k) (hiM k)) s.w := fun s => (formLd20 H20.out s.h.drop).2.1
  have g3 : ∀ s : Cls fun w' => St W w' (row T 0 m.cells :: row F 0 (formC k) :: R), (loadG 193 (.pointer (some ⟨F, 4, none⟩))).run Tryz.prog s.w = .ok (two2 (loE k) (hiE k)) s.w := fun s => (formLd20 H20.out s.h.drop).2.2
  clear hk h9
  obtain ⟨b0, e0⟩ : ∃ b, sameB (bareM m k) k = b := ⟨_, rfl⟩
  have HSB := hid e0; clear e0
  obtain ⟨b1, e1⟩ : ∃ b, wnodeB m.peer = b := ⟨_, rfl⟩
  have HNB := hid e1; clear e1
  obtain ⟨b2, e2⟩ : ∃ b, decide (0 ≤ m.hops) = b := ⟨_, rfl⟩
  have H0 := hid e2
  obtain ⟨b3, e3⟩ : ∃ b, decide (m.hops ≤ 8) = b := ⟨_, rfl⟩
  have H8 := hid e3
  obtain ⟨b4, e4⟩ : ∃ b, decide (0 ≤ m.number) = b := ⟨_, rfl⟩
  have N0 := hid e4
  obtain ⟨b5, e5⟩ : ∃ b, decide (m.number ≤ 4294967295) = b := ⟨_, rfl⟩
  have N8 := hid e5
  obtain ⟨b6, e6⟩ : ∃ b, mzB m = b := ⟨_, rfl⟩
  have HMZ := hid e6
  obtain ⟨b7, e7⟩ : ∃ b, markB m.mark = b := ⟨_, rfl⟩
  have HMB := hid e7; clear e7
  obtain ⟨b8, e8⟩ : ∃ b, allB m.pn m.ps = b := ⟨_, rfl⟩
  have HAB := hid e8; clear e8
  obtain ⟨b9, e9⟩ : ∃ b, mkCAll (loM k) (hiM k) ks = b := ⟨_, rfl⟩
  have HM0 := hid e9; clear e9
  obtain ⟨b10, e10⟩ : ∃ b, enCAll (loE k) (hiE k) es = b := ⟨_, rfl⟩
  have HE0 := hid e10; clear e10
  have HG : Hid (goodX m k ks es = (b0 && (b1 && (b2 && (b3 && (b4 && (b5 && ((b6 || b7) && (b8 && (b9 && b10)))))))))) := hid (by unfold goodX; rw [HSB.out, HNB.out, H0.out, H8.out, N0.out, N8.out, HMZ.out, HMB.out, HAB.out, HM0.out, HE0.out])
  have HK := hid K; clear K
  refine wp_region_class (fun w' => St W w' (row T 0 m.cells :: row F 0 (formC k) :: R)) (by kernel_rfl) (by kernel_rfl) s5.drew ?_
  dsimp only [List.append]
  iterate 9 (go_big_quiet_step ((rename_i s; first
    | (go_at_call 142; refine bare_c H20.out s.h ?_; rintro w2 s2; exact Cls.end _ s2)
    | (go_at_call 141; refine wsame_c ⟨rfl, rfl, rfl, rfl, rfl, rfl⟩ s.h ?_; rintro w2 s2; rw [HSB.out]; exact Cls.end _ s2))))
  cases b0 with
  | false =>
    have HG2 : Hid (goodX m k ks es = false) := hid (by rw [HG.out]; rfl)
    rw [HG2.out] at HK
    repeat (go_big_quiet_step (fail))
    refine wpQuiet_nil ?_
    rintro ⟨w6, s6⟩
    dsimp only
    go_wp2_with fail
    exact HK.out _ (by exact s6.dropN 2)
  | true =>
    repeat (go_big_quiet_step ((rename_i s; (go_at_call 143; refine wnode_c ?_; rw [HNB.out]; exact Cls.end _ s.h))))
    cases b1 with
    | false =>
      have HG2 : Hid (goodX m k ks es = false) := hid (by rw [HG.out]; rfl)
      rw [HG2.out] at HK
      repeat (go_big_quiet_step (fail))
      refine wpQuiet_nil ?_
      rintro ⟨w6, s6⟩
      dsimp only
      go_wp2_with fail
      exact HK.out _ (by exact s6.dropN 2)
    | true =>
      repeat (go_big_quiet_step ((rename_i s; fail)))
      cases b2 with
      | false =>
        have HG2 : Hid (goodX m k ks es = false) := hid (by rw [HG.out]; rfl)
        rw [HG2.out] at HK
        repeat (go_big_quiet_step (fail))
        refine wpQuiet_nil ?_
        rintro ⟨w6, s6⟩
        dsimp only
        go_wp2_with fail
        exact HK.out _ (by exact s6.dropN 2)
      | true =>
        repeat (go_big_quiet_step ((rename_i s; fail)))
        cases b3 with
        | false =>
          have HG2 : Hid (goodX m k ks es = false) := hid (by rw [HG.out]; rfl)
          rw [HG2.out] at HK
          repeat (go_big_quiet_step (fail))
          refine wpQuiet_nil ?_
          rintro ⟨w6, s6⟩
          dsimp only
          go_wp2_with fail
          exact HK.out _ (by exact s6.dropN 2)
        | true =>
          repeat (go_big_quiet_step ((rename_i s; fail)))
          cases b4 with
          | false =>
            have HG2 : Hid (goodX m k ks es = false) := hid (by rw [HG.out]; rfl)
            rw [HG2.out] at HK
            repeat (go_big_quiet_step (fail))
            refine wpQuiet_nil ?_
            rintro ⟨w6, s6⟩
            dsimp only
            go_wp2_with fail
            exact HK.out _ (by exact s6.dropN 2)
          | true =>
            repeat (go_big_quiet_step ((rename_i s; fail)))
            cases b5 with
            | false =>
              have HG2 : Hid (goodX m k ks es = false) := hid (by rw [HG.out]; rfl)
              rw [HG2.out] at HK
              repeat (go_big_quiet_step (fail))
              refine wpQuiet_nil ?_
              rintro ⟨w6, s6⟩
              dsimp only
              go_wp2_with fail
              exact HK.out _ (by exact s6.dropN 2)
            | true =>
              repeat (go_big_quiet_step ((rename_i s; fail)))
              cases b6 with
              | true =>
                repeat (go_big_quiet_step ((rename_i s; (go_at_call 145; refine all145_c HP1.out.cons.cons HN.out s.h ?_; rintro w2 s2; rw [HAB.out]; exact Cls.end _ s2))))
                cases b8 with
                | false =>
                  have HG2 : Hid (goodX m k ks es = false) := hid (by rw [HG.out]; rfl)
                  rw [HG2.out] at HK
                  repeat (go_big_quiet_step (fail))
                  refine wpQuiet_nil ?_
                  rintro ⟨w6, s6⟩
                  dsimp only
                  go_wp2_with fail
                  exact HK.out _ (by exact s6.dropN 2)
                | true =>
                  repeat (go_big_quiet_step ((rename_i s; (go_at_call 146; refine mkCAll_c HPM.out.cons.cons HNM.out s.h ?_; rintro w2 s2; rw [HM0.out]; exact Cls.end _ s2))))
                  cases b9 with
                  | false =>
                    have HG2 : Hid (goodX m k ks es = false) := hid (by rw [HG.out]; rfl)
                    rw [HG2.out] at HK
                    repeat (go_big_quiet_step (fail))
                    refine wpQuiet_nil ?_
                    rintro ⟨w6, s6⟩
                    dsimp only
                    go_wp2_with fail
                    exact HK.out _ (by exact s6.dropN 2)
                  | true =>
                    repeat (go_big_quiet_step ((rename_i s; (go_at_call 147; refine enCAll_c HPE.out.cons.cons HNE.out s.h ?_; rintro w2 s2; rw [HE0.out]; exact Cls.end _ s2))))
                    cases b10 with
                    | false =>
                      have HG2 : Hid (goodX m k ks es = false) := hid (by rw [HG.out]; rfl)
                      rw [HG2.out] at HK
                      repeat (go_big_quiet_step (fail))
                      refine wpQuiet_nil ?_
                      rintro ⟨w6, s6⟩
                      dsimp only
                      go_wp2_with fail
                      exact HK.out _ (by exact s6.dropN 2)
                    | true =>
                      have HG2 : Hid (goodX m k ks es = true) := hid (by rw [HG.out]; rfl)
                      rw [HG2.out] at HK
                      repeat (go_big_quiet_step (fail))
                      refine wpQuiet_nil ?_
                      rintro ⟨w6, s6⟩
                      dsimp only
                      go_wp2_with fail
                      exact HK.out _ (by exact s6.dropN 2)
              | false =>
                repeat (go_big_quiet_step ((rename_i s; (go_at_call 144; refine goodMark_c (m := m.mark) s.h ?_; rintro w2 s2; rw [HMB.out]; exact Cls.end _ s2))))
                cases b7 with
                | false =>
                  have HG2 : Hid (goodX m k ks es = false) := hid (by rw [HG.out]; rfl)
                  rw [HG2.out] at HK
                  repeat (go_big_quiet_step (fail))
                  refine wpQuiet_nil ?_
                  rintro ⟨w6, s6⟩
                  dsimp only
                  go_wp2_with fail
                  exact HK.out _ (by exact s6.dropN 2)
                | true =>
                  repeat (go_big_quiet_step ((rename_i s; (go_at_call 145; refine all145_c HP1.out.cons.cons HN.out s.h ?_; rintro w2 s2; rw [HAB.out]; exact Cls.end _ s2))))
                  cases b8 with
                  | false =>
                    have HG2 : Hid (goodX m k ks es = false) := hid (by rw [HG.out]; rfl)
                    rw [HG2.out] at HK
                    repeat (go_big_quiet_step (fail))
                    refine wpQuiet_nil ?_
                    rintro ⟨w6, s6⟩
                    dsimp only
                    go_wp2_with fail
                    exact HK.out _ (by exact s6.dropN 2)
                  | true =>
                    repeat (go_big_quiet_step ((rename_i s; (go_at_call 146; refine mkCAll_c HPM.out.cons.cons HNM.out s.h ?_; rintro w2 s2; rw [HM0.out]; exact Cls.end _ s2))))
                    cases b9 with
                    | false =>
                      have HG2 : Hid (goodX m k ks es = false) := hid (by rw [HG.out]; rfl)
                      rw [HG2.out] at HK
                      repeat (go_big_quiet_step (fail))
                      refine wpQuiet_nil ?_
                      rintro ⟨w6, s6⟩
                      dsimp only
                      go_wp2_with fail
                      exact HK.out _ (by exact s6.dropN 2)
                    | true =>
                      repeat (go_big_quiet_step ((rename_i s; (go_at_call 147; refine enCAll_c HPE.out.cons.cons HNE.out s.h ?_; rintro w2 s2; rw [HE0.out]; exact Cls.end _ s2))))
                      cases b10 with
                      | false =>
                        have HG2 : Hid (goodX m k ks es = false) := hid (by rw [HG.out]; rfl)
                        rw [HG2.out] at HK
                        repeat (go_big_quiet_step (fail))
                        refine wpQuiet_nil ?_
                        rintro ⟨w6, s6⟩
                        dsimp only
                        go_wp2_with fail
                        exact HK.out _ (by exact s6.dropN 2)
                      | true =>
                        have HG2 : Hid (goodX m k ks es = true) := hid (by rw [HG.out]; rfl)
                        rw [HG2.out] at HK
                        repeat (go_big_quiet_step (fail))
                        refine wpQuiet_nil ?_
                        rintro ⟨w6, s6⟩
                        dsimp only
                        go_wp2_with fail
                        exact HK.out _ (by exact s6.dropN 2)
end

end Go.Proofs.YtbpdchaeakihkaaGreat
