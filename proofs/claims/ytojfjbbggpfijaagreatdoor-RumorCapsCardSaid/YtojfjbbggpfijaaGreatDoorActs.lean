/- Acts: several texts, joined. The document's entries, marks, options and a replica's acts, as they come in. Printed by mkReadsE.py. -/
import Derived.Test.YtojfjbbggpfijaaGreatDoorCfgx
import Derived.Test.YtojfjbbggpfijaaGreatDoorMarks
import Derived.Test.YtojfjbbggpfijaaGreatDoorRows
import Derived.Test.YtojfjbbggpfijaaGreatDoorMsgs
import Derived.Test.YtojfjbbggpfijaaGreatDoorLawE
namespace Go.Proofs.YtojfjbbggpfijaaGreatDoor
open Go.RowKit Go.Qd Go.ChangeShapes Go.WideShapes Go.ChangeAt

set_option maxRecDepth 100000 in
set_option maxHeartbeats 1000000 in
theorem rst_cells {H : Type} {enc : TypeId × Value → H} {W : World} {base : Nat} {sp : Nat → Bool} {m : Nat} {cs : List Value} {y : DataW H × List MemPlace}
    (h : DataW.trod enc Tryz.prog W base sp true m 41 cs = some y) : ∃ c s : Int, cs = [.int .i64 c, .int .i64 s] := by
  obtain ⟨xs, k, rfl, rfl, hl, hx, hfs⟩ := DataW.trod_struct Tryz.underlying41 h
  have cE : Tryz.prog.cellsOf 41 = 2 := by kernel_rfl
  rw [cE] at hl
  have c_0 : Tryz.prog.cellsOf 3 = 1 := by kernel_rfl
  match cs, hl with
  | [u0, u1], _ =>
    have hx' : xs.length = 2 := hx
    have h0 : DataW.trod enc Tryz.prog W base sp true k 3 (([u0, u1].drop 0).take (Tryz.prog.cellsOf 3)) = xs[0]? := hfs 0 _ rfl
    have h1 : DataW.trod enc Tryz.prog W base sp true k 3 (([u0, u1].drop 1).take (Tryz.prog.cellsOf 3)) = xs[1]? := hfs 1 _ rfl
    rw [List.getElem?_eq_getElem (by omega)] at h0 h1
    simp only [c_0, List.drop_zero, List.drop_succ_cons, List.take_succ_cons, List.take_zero] at h0 h1
    obtain ⟨a, e0, r0⟩ := int_cells Tryz.underlying3 h0
    obtain ⟨b, e1, r1⟩ := int_cells Tryz.underlying3 h1
    simp at e0
    subst e0
    simp at e1
    subst e1
    exact ⟨a, b, rfl⟩

set_option maxRecDepth 100000 in
set_option maxHeartbeats 1000000 in
theorem rmk_cells {H : Type} {enc : TypeId × Value → H} {W : World} {base : Nat} {sp : Nat → Bool} {m : Nat} {cs : List Value} {y : DataW H × List MemPlace}
    (h : DataW.trod enc Tryz.prog W base sp true m 46 cs = some y) : ∃ x : MkV, cs = x.cells := by
  obtain ⟨xs, k, rfl, rfl, hl, hx, hfs⟩ := DataW.trod_struct Tryz.underlying46 h
  have cE : Tryz.prog.cellsOf 46 = 3 := by kernel_rfl
  rw [cE] at hl
  have c_0 : Tryz.prog.cellsOf 41 = 2 := by kernel_rfl
  have c_1 : Tryz.prog.cellsOf 9 = 1 := by kernel_rfl
  match cs, hl with
  | [u0, u1, u2], _ =>
    have hx' : xs.length = 2 := hx
    have h0 : DataW.trod enc Tryz.prog W base sp true k 41 (([u0, u1, u2].drop 0).take (Tryz.prog.cellsOf 41)) = xs[0]? := hfs 0 _ rfl
    have h1 : DataW.trod enc Tryz.prog W base sp true k 9 (([u0, u1, u2].drop 2).take (Tryz.prog.cellsOf 9)) = xs[1]? := hfs 1 _ rfl
    rw [List.getElem?_eq_getElem (by omega)] at h0 h1
    simp only [c_0, c_1, List.drop_zero, List.drop_succ_cons, List.take_succ_cons, List.take_zero] at h0 h1
    obtain ⟨a, b, e0⟩ := rst_cells h0
    obtain ⟨key, e1, _, q1⟩ := DataW.trod_string Tryz.underlying9 h1
    simp at e1
    subst e1
    simp at e0
    obtain ⟨rfl, rfl⟩ := e0
    exact ⟨⟨a, b, key⟩, rfl⟩

set_option maxRecDepth 100000 in
set_option maxHeartbeats 1000000 in
theorem ren_cells {H : Type} {enc : TypeId × Value → H} {W : World} {base : Nat} {sp : Nat → Bool} {m : Nat} {cs : List Value} {y : DataW H × List MemPlace}
    (h : DataW.trod enc Tryz.prog W base sp true m 43 cs = some y) : ∃ x : EnV, cs = x.cells := by
  obtain ⟨xs, k, rfl, rfl, hl, hx, hfs⟩ := DataW.trod_struct Tryz.underlying43 h
  have cE : Tryz.prog.cellsOf 43 = 9 := by kernel_rfl
  rw [cE] at hl
  have c_0 : Tryz.prog.cellsOf 9 = 1 := by kernel_rfl
  have c_1 : Tryz.prog.cellsOf 4 = 1 := by kernel_rfl
  have c_2 : Tryz.prog.cellsOf 41 = 2 := by kernel_rfl
  have c_3 : Tryz.prog.cellsOf 3 = 1 := by kernel_rfl
  match cs, hl with
  | [u0, u1, u2, u3, u4, u5, u6, u7, u8], _ =>
    have hx' : xs.length = 7 := hx
    have h0 : DataW.trod enc Tryz.prog W base sp true k 9 (([u0, u1, u2, u3, u4, u5, u6, u7, u8].drop 0).take (Tryz.prog.cellsOf 9)) = xs[0]? := hfs 0 _ rfl
    have h1 : DataW.trod enc Tryz.prog W base sp true k 9 (([u0, u1, u2, u3, u4, u5, u6, u7, u8].drop 1).take (Tryz.prog.cellsOf 9)) = xs[1]? := hfs 1 _ rfl
    have h2 : DataW.trod enc Tryz.prog W base sp true k 4 (([u0, u1, u2, u3, u4, u5, u6, u7, u8].drop 2).take (Tryz.prog.cellsOf 4)) = xs[2]? := hfs 2 _ rfl
    have h3 : DataW.trod enc Tryz.prog W base sp true k 41 (([u0, u1, u2, u3, u4, u5, u6, u7, u8].drop 3).take (Tryz.prog.cellsOf 41)) = xs[3]? := hfs 3 _ rfl
    have h4 : DataW.trod enc Tryz.prog W base sp true k 41 (([u0, u1, u2, u3, u4, u5, u6, u7, u8].drop 5).take (Tryz.prog.cellsOf 41)) = xs[4]? := hfs 4 _ rfl
    have h5 : DataW.trod enc Tryz.prog W base sp true k 3 (([u0, u1, u2, u3, u4, u5, u6, u7, u8].drop 7).take (Tryz.prog.cellsOf 3)) = xs[5]? := hfs 5 _ rfl
    have h6 : DataW.trod enc Tryz.prog W base sp true k 3 (([u0, u1, u2, u3, u4, u5, u6, u7, u8].drop 8).take (Tryz.prog.cellsOf 3)) = xs[6]? := hfs 6 _ rfl
    rw [List.getElem?_eq_getElem (by omega)] at h0 h1 h2 h3 h4 h5 h6
    simp only [c_0, c_1, c_2, c_3, List.drop_zero, List.drop_succ_cons, List.take_succ_cons, List.take_zero] at h0 h1 h2 h3 h4 h5 h6
    obtain ⟨key, e0, _, q0⟩ := DataW.trod_string Tryz.underlying9 h0
    obtain ⟨val, e1, _, q1⟩ := DataW.trod_string Tryz.underlying9 h1
    obtain ⟨dead, e2, _⟩ := DataW.trod_bool Tryz.underlying4 h2
    obtain ⟨a, b, e3⟩ := rst_cells h3
    obtain ⟨c, d, e4⟩ := rst_cells h4
    obtain ⟨kp, e5, r5⟩ := int_cells Tryz.underlying3 h5
    obtain ⟨age, e6, r6⟩ := int_cells Tryz.underlying3 h6
    simp at e0
    subst e0
    simp at e1
    subst e1
    simp at e2
    subst e2
    simp at e5
    subst e5
    simp at e6
    subst e6
    simp at e3 e4
    obtain ⟨rfl, rfl⟩ := e3
    obtain ⟨rfl, rfl⟩ := e4
    exact ⟨⟨key, val, dead, a, b, c, d, kp, age⟩, rfl⟩

/-- An act with a replica. -/
structure RAct where
  kind : Int
  key : ByteArray
  val : ByteArray
  e : EnV
def RAct.cells (x : RAct) : List Value := [.int .i64 x.kind, .string x.key, .string x.val] ++ x.e.cells
end Go.Proofs.YtojfjbbggpfijaaGreatDoor

/- The document's messages, as they come in. Printed by mkReadsM.py. -/
namespace Go.Proofs.YtojfjbbggpfijaaGreatDoor
open Go.RowKit Go.Qd Go.ChangeShapes Go.WideShapes Go.ChangeAt

theorem slice_shape {H : Type} {enc : TypeId × Value → H} {P : Program} {W : World} {base : Nat} {sp : Nat → Bool} {held : Bool} {m : Nat} {T E : TypeId} {u : Value} {y : DataW H × List MemPlace}
    (uT : P.underlying T = some (.slice E)) (h : DataW.trod enc P W base sp held m T [u] = some y) : ∃ a n c, u = .slice a n c := by
  rcases DataW.trod_slice uT h with ⟨h1, _⟩ | ⟨a, n, c, _, _, _, _, h1, _⟩
  · exact ⟨none, 0, 0, by simpa using h1⟩
  · exact ⟨some a, n, c, by simpa using h1⟩
/-- What a message that came in reads. -/
def MsgV.reads (W : World) (x : MsgV) (ks : List MkV) (es : List EnV) : Prop := RdS W 1 x.pa x.pn x.pc (ivs x.ps) ∧ RdS W 3 x.ma x.mn x.mq (mkC ks) ∧ RdS W 9 x.ea x.en x.eq (enC es)

set_option maxRecDepth 100000 in
set_option maxHeartbeats 1000000 in
theorem rmsg_cells {H : Type} {enc : TypeId × Value → H} {W : World} {base : Nat} {sp : Nat → Bool} {m : Nat} {cs : List Value} {y : DataW H × List MemPlace}
    (h : DataW.trod enc Tryz.prog W base sp true m 50 cs = some y) : ∃ (x : MsgV) (ks : List MkV) (es : List EnV), cs = x.cells ∧ x.reads W ks es := by
  obtain ⟨xs, k, rfl, rfl, hl, hx, hfs⟩ := DataW.trod_struct Tryz.underlying50 h
  have cE : Tryz.prog.cellsOf 50 = 12 := by kernel_rfl
  rw [cE] at hl
  have c_0 : Tryz.prog.cellsOf 3 = 1 := by kernel_rfl
  have c_1 : Tryz.prog.cellsOf 4 = 1 := by kernel_rfl
  have c_2 : Tryz.prog.cellsOf 24 = 1 := by kernel_rfl
  have c_3 : Tryz.prog.cellsOf 44 = 1 := by kernel_rfl
  have c_4 : Tryz.prog.cellsOf 46 = 3 := by kernel_rfl
  have c_5 : Tryz.prog.cellsOf 47 = 1 := by kernel_rfl
  have c_6 : Tryz.prog.cellsOf 48 = 1 := by kernel_rfl
  match cs, hl with
  | [u0, u1, u2, u3, u4, u5, u6, u7, u8, u9, u10, u11], _ =>
    have hx' : xs.length = 10 := hx
    have h0 : DataW.trod enc Tryz.prog W base sp true k 3 (([u0, u1, u2, u3, u4, u5, u6, u7, u8, u9, u10, u11].drop 0).take (Tryz.prog.cellsOf 3)) = xs[0]? := hfs 0 _ rfl
    have h1 : DataW.trod enc Tryz.prog W base sp true k 3 (([u0, u1, u2, u3, u4, u5, u6, u7, u8, u9, u10, u11].drop 1).take (Tryz.prog.cellsOf 3)) = xs[1]? := hfs 1 _ rfl
    have h2 : DataW.trod enc Tryz.prog W base sp true k 3 (([u0, u1, u2, u3, u4, u5, u6, u7, u8, u9, u10, u11].drop 2).take (Tryz.prog.cellsOf 3)) = xs[2]? := hfs 2 _ rfl
    have h3 : DataW.trod enc Tryz.prog W base sp true k 4 (([u0, u1, u2, u3, u4, u5, u6, u7, u8, u9, u10, u11].drop 3).take (Tryz.prog.cellsOf 4)) = xs[3]? := hfs 3 _ rfl
    have h4 : DataW.trod enc Tryz.prog W base sp true k 24 (([u0, u1, u2, u3, u4, u5, u6, u7, u8, u9, u10, u11].drop 4).take (Tryz.prog.cellsOf 24)) = xs[4]? := hfs 4 _ rfl
    have h5 : DataW.trod enc Tryz.prog W base sp true k 3 (([u0, u1, u2, u3, u4, u5, u6, u7, u8, u9, u10, u11].drop 5).take (Tryz.prog.cellsOf 3)) = xs[5]? := hfs 5 _ rfl
    have h6 : DataW.trod enc Tryz.prog W base sp true k 44 (([u0, u1, u2, u3, u4, u5, u6, u7, u8, u9, u10, u11].drop 6).take (Tryz.prog.cellsOf 44)) = xs[6]? := hfs 6 _ rfl
    have h7 : DataW.trod enc Tryz.prog W base sp true k 46 (([u0, u1, u2, u3, u4, u5, u6, u7, u8, u9, u10, u11].drop 7).take (Tryz.prog.cellsOf 46)) = xs[7]? := hfs 7 _ rfl
    have h8 : DataW.trod enc Tryz.prog W base sp true k 47 (([u0, u1, u2, u3, u4, u5, u6, u7, u8, u9, u10, u11].drop 10).take (Tryz.prog.cellsOf 47)) = xs[8]? := hfs 8 _ rfl
    have h9 : DataW.trod enc Tryz.prog W base sp true k 48 (([u0, u1, u2, u3, u4, u5, u6, u7, u8, u9, u10, u11].drop 11).take (Tryz.prog.cellsOf 48)) = xs[9]? := hfs 9 _ rfl
    rw [List.getElem?_eq_getElem (by omega)] at h0 h1 h2 h3 h4 h5 h6 h7 h8 h9
    simp only [c_0, c_1, c_2, c_3, c_4, c_5, c_6, List.drop_zero, List.drop_succ_cons, List.take_succ_cons, List.take_zero] at h0 h1 h2 h3 h4 h5 h6 h7 h8 h9
    obtain ⟨kd, e0, r0⟩ := int_cells Tryz.underlying3 h0
    obtain ⟨pe, e1, r1⟩ := int_cells Tryz.underlying3 h1
    obtain ⟨ho, e2, r2⟩ := int_cells Tryz.underlying3 h2
    obtain ⟨hi, e3, _⟩ := DataW.trod_bool Tryz.underlying4 h3
    obtain ⟨pa, pn, pc, e4⟩ := slice_shape Tryz.underlying24 h4
    obtain ⟨nu, e5, r5⟩ := int_cells Tryz.underlying3 h5
    obtain ⟨su, e6, _, _⟩ := DataW.trod_int Tryz.underlying44 h6
    obtain ⟨x, e7⟩ := rmk_cells h7
    obtain ⟨ma, mn, mq, e8⟩ := slice_shape Tryz.underlying47 h8
    obtain ⟨ea, en, eq, e9⟩ := slice_shape Tryz.underlying48 h9
    simp at e0
    subst e0
    simp at e1
    subst e1
    simp at e2
    subst e2
    simp at e3
    subst e3
    simp at e5
    subst e5
    simp at e6
    subst e6
    obtain ⟨xc, xz, xk⟩ := x
    simp [MkV.cells] at e7
    obtain ⟨rfl, rfl, rfl⟩ := e7
    subst e4 e8 e9
    obtain ⟨ps, rp, _⟩ := ints_of_trod' Tryz.underlying24 Tryz.underlying3 (by kernel_rfl) h4
    obtain ⟨ks, rm, _⟩ := slice_cells MkV.cells (fun _ => True) mk_one (by decide) Tryz.underlying47 (by kernel_rfl : Tryz.prog.cellsOf 46 = 3) (fun _ _ _ h => by obtain ⟨x, hx⟩ := rmk_cells h; exact ⟨x, hx, trivial⟩) h8
    obtain ⟨es, re, _⟩ := slice_cells EnV.cells (fun _ => True) en_one (by decide) Tryz.underlying48 (by kernel_rfl : Tryz.prog.cellsOf 43 = 9) (fun _ _ _ h => by obtain ⟨x, hx⟩ := ren_cells h; exact ⟨x, hx, trivial⟩) h9
    exact ⟨⟨kd, pe, ho, hi, pa, pn, pc, ps, nu, su, xc, xz, xk, ma, mn, mq, ea, en, eq⟩, ks, es, rfl, rp, rm, re⟩

end Go.Proofs.YtojfjbbggpfijaaGreatDoor

/- Is a message short? Printed by mkFewA.py. -/
namespace Go.Proofs.YtojfjbbggpfijaaGreatDoor
open Go.RowKit Go.Qd
attribute [local go_sem ↓] execOp_ldAny

section
variable {W w : World} {R : List HP} {post : Ending → World → Prop} {m : MsgV} {ks : List MkV} {es : List EnV}

theorem fewL {W w : World} {R : List HP} {m : MsgV} {T : Nat} (s : St W w (row T 0 m.cells :: R)) :
    (loadG 24 (.pointer (some ⟨T, 4, none⟩))).run Tryz.prog w = .ok (.slice m.pa m.pn m.pc) w ∧ (loadG 47 (.pointer (some ⟨T, 10, none⟩))).run Tryz.prog w = .ok (.slice m.ma m.mn m.mq) w ∧
    (loadG 48 (.pointer (some ⟨T, 11, none⟩))).run Tryz.prog w = .ok (.slice m.ea m.en m.eq) w ∧ (loadG 9 (.pointer (some ⟨T, 9, none⟩))).run Tryz.prog w = .ok (.string m.key) w := by
  obtain ⟨_, _, _, _, c4, _, _, _, _, c9, _⟩ := boxM s
  exact ⟨run_ldP (by kernel_rfl) c4, (msgS s).1, (msgS s).2, run_ldP (by kernel_rfl) c9⟩

set_option maxRecDepth 100000 in
set_option maxHeartbeats 4000000 in
theorem few16_c (st : St W w R) (hpM : Rds W R 3 m.ma m.mn m.mq (mkC ks)) (hpE : Rds W R 9 m.ea m.en m.eq (enC es))
    (K : ∀ w' b, St W w' R → (b = true → m.pn ≤ 20 ∧ m.mn ≤ 20 ∧ m.en ≤ 20) → post (.returned (.bool b)) w') :
    Calls Tryz.prog 31 #[.agg m.cells.toArray] w post := by
  have HK := hid K; clear K
  obtain ⟨ma, hma⟩ : ∃ x, m.ma = x := ⟨_, rfl⟩
  obtain ⟨mn, hmn⟩ : ∃ x, m.mn = x := ⟨_, rfl⟩
  obtain ⟨mq, hmq⟩ : ∃ x, m.mq = x := ⟨_, rfl⟩
  obtain ⟨ea, hea⟩ : ∃ x, m.ea = x := ⟨_, rfl⟩
  obtain ⟨en, hen⟩ : ∃ x, m.en = x := ⟨_, rfl⟩
  obtain ⟨eq, heq⟩ : ∃ x, m.eq = x := ⟨_, rfl⟩
  obtain ⟨pn, hpn⟩ : ∃ x, m.pn = x := ⟨_, rfl⟩
  rw [hma, hmn, hmq] at hpM
  rw [hea, hen, heq] at hpE
  rw [hmn, hen, hpn] at HK
  have HF := hid (And.intro hma (And.intro hmn (And.intro hmq (And.intro hea (And.intro hen (And.intro heq hpn))))))
  clear hma hmn hmq hea hen heq hpn
  have HPM := hid hpM; have HPE := hid hpE
  have HNl : Hid (ks.length = mn ∧ es.length = en) := hid ⟨mkC_ln (hpM w st), enC_ln (hpE w st)⟩
  clear hpM hpE
  obtain ⟨b0, e0⟩ : ∃ b, decide (20 < (pn : Int)) = b := ⟨_, rfl⟩
  obtain ⟨b1, e1⟩ : ∃ b, decide (20 < (mn : Int)) = b := ⟨_, rfl⟩
  obtain ⟨b2, e2⟩ : ∃ b, decide (20 < (en : Int)) = b := ⟨_, rfl⟩
  obtain ⟨b3, e3⟩ : ∃ b, decide (300 < (m.key.size : Int)) = b := ⟨_, rfl⟩
  cases b0 with
  | true =>
    go_enter Tryz.func31, Tryz.ntmps31
    go_wp2_with (refine wpl_boxA (vs := m.cells) rfl (.tmp 0) rfl rfl st ?_; rintro T w1 s1; obtain ⟨l4, l8, l9, lk⟩ := fewL s1; rw [HF.out.1, HF.out.2.1, HF.out.2.2.1] at l8; rw [HF.out.2.2.2.1, HF.out.2.2.2.2.1, HF.out.2.2.2.2.2.1] at l9; rw [HF.out.2.2.2.2.2.2] at l4)
    exact HK.out _ false s1.drop (by intro h; cases h)
  | false =>
    cases b1 with
    | true =>
      go_enter Tryz.func31, Tryz.ntmps31
      go_wp2_with (refine wpl_boxA (vs := m.cells) rfl (.tmp 0) rfl rfl st ?_; rintro T w1 s1; obtain ⟨l4, l8, l9, lk⟩ := fewL s1; rw [HF.out.1, HF.out.2.1, HF.out.2.2.1] at l8; rw [HF.out.2.2.2.1, HF.out.2.2.2.2.1, HF.out.2.2.2.2.2.1] at l9; rw [HF.out.2.2.2.2.2.2] at l4)
      exact HK.out _ false s1.drop (by intro h; cases h)
    | false =>
      cases b2 with
      | true =>
        go_enter Tryz.func31, Tryz.ntmps31
        go_wp2_with (refine wpl_boxA (vs := m.cells) rfl (.tmp 0) rfl rfl st ?_; rintro T w1 s1; obtain ⟨l4, l8, l9, lk⟩ := fewL s1; rw [HF.out.1, HF.out.2.1, HF.out.2.2.1] at l8; rw [HF.out.2.2.2.1, HF.out.2.2.2.2.1, HF.out.2.2.2.2.2.1] at l9; rw [HF.out.2.2.2.2.2.2] at l4)
        exact HK.out _ false s1.drop (by intro h; cases h)
      | false =>
        cases b3 with
        | true =>
          go_enter Tryz.func31, Tryz.ntmps31
          go_wp2_with (refine wpl_boxA (vs := m.cells) rfl (.tmp 0) rfl rfl st ?_; rintro T w1 s1; obtain ⟨l4, l8, l9, lk⟩ := fewL s1; rw [HF.out.1, HF.out.2.1, HF.out.2.2.1] at l8; rw [HF.out.2.2.2.1, HF.out.2.2.2.2.1, HF.out.2.2.2.2.2.1] at l9; rw [HF.out.2.2.2.2.2.2] at l4)
          exact HK.out _ false s1.drop (by intro h; cases h)
        | false =>
          go_enter Tryz.func31, Tryz.ntmps31
          go_wp2_with (refine wpl_boxA (vs := m.cells) rfl (.tmp 0) rfl rfl st ?_; rintro T w1 s1; obtain ⟨l4, l8, l9, lk⟩ := fewL s1; rw [HF.out.1, HF.out.2.1, HF.out.2.2.1] at l8; rw [HF.out.2.2.2.1, HF.out.2.2.2.2.1, HF.out.2.2.2.2.2.1] at l9; rw [HF.out.2.2.2.2.2.2] at l4)
          go_loopw [33] (fun ii wr => ∃ i : Nat, i ≤ mn ∧ ii = .int .i64 i ∧ St W wr (row T 0 m.cells :: R)) (fun ii _ => mn - (intOf ii).toNat)
          case atStart => exact ⟨0, Nat.zero_le _, rfl, s1⟩
          case round =>
            obtain ⟨i, hi, rfl, sr⟩ := hrel
            have hb20 := of_decide_eq_false e1
            by_cases hlt : i < mn
            · have hi2 : (i : Int) < (mn : Int) := by omega
              have rd := HPM.out _ sr.drop
              obtain ⟨g3, o3, rfl⟩ := rd.addr (by omega)
              have hiA : i < ks.length := by rw [HNl.out.1]; exact hlt
              have ci := rmkLd rd hiA
              obtain ⟨q, hq⟩ : ∃ q, ks[i] = q := ⟨_, rfl⟩
              rw [hq] at ci
              obtain ⟨z, hz⟩ : ∃ z, decide (300 < (q.key.size : Int)) = z := ⟨_, rfl⟩
              
              clear hq rd hiA
              cases z with
              | true =>
                go_wp2_with (first
                  | (refine wpl_allocA rfl rfl zero_mkTo sr ?_; rintro P w7 s7)
                  | (refine wpl_storeA (vs := q.cells) rfl (.tmp 4) (.tmp 36) (by rfl) agg_rmk (by rfl) (by rfl) rfl (mk_one q) s7 rfl ?_; rintro w8 s8; have lq := (mkLOf s8).2)
                  | fail)
                exact HK.out _ false (St.drop (St.drop s8)) (by intro h; cases h)
              | false =>
                go_wp2_with (first
                  | (refine wpl_allocA rfl rfl zero_mkTo sr ?_; rintro P w7 s7)
                  | (refine wpl_storeA (vs := q.cells) rfl (.tmp 4) (.tmp 36) (by rfl) agg_rmk (by rfl) (by rfl) rfl (mk_one q) s7 rfl ?_; rintro w8 s8; have lq := (mkLOf s8).2)
                  | fail)
                go_roundw
                case rel => exact ⟨i + 1, by omega, by go_num, St.drop s8⟩
                case measure => simp [intOf]; omega
            · have hie : mn = i := by omega
              subst hie
              obtain ⟨_, _, k9, _⟩ := fewL sr
              rw [HF.out.2.2.2.1, HF.out.2.2.2.2.1, HF.out.2.2.2.2.2.1] at k9
              go_wp2_with fail
              go_loopw [45] (fun ii wr => ∃ i : Nat, i ≤ en ∧ ii = .int .i64 i ∧ St W wr (row T 0 m.cells :: R)) (fun ii _ => en - (intOf ii).toNat)
              case atStart => exact ⟨0, Nat.zero_le _, rfl, sr⟩
              case round =>
                obtain ⟨i, hi, rfl, sr⟩ := hrel
                have hb20 := of_decide_eq_false e2
                by_cases hlt : i < en
                · have hi2 : (i : Int) < (en : Int) := by omega
                  have rd := HPE.out _ sr.drop
                  obtain ⟨g3, o3, rfl⟩ := rd.addr (by omega)
                  have hiA : i < es.length := by rw [HNl.out.2]; exact hlt
                  have ci := renLd rd hiA
                  obtain ⟨q, hq⟩ : ∃ q, es[i] = q := ⟨_, rfl⟩
                  rw [hq] at ci
                  obtain ⟨z, hz⟩ : ∃ z, shortB q = z := ⟨_, rfl⟩
                  have HZ := hid hz; clear hz
                  clear hq rd hiA
                  cases z with
                  | false =>
                    go_wp2_with (first
                      | (refine wpl_allocA rfl rfl zero_enTo sr ?_; rintro P w7 s7)
                      | (refine wpl_storeA (vs := q.cells) rfl (.tmp 6) (.tmp 48) (by rfl) agg_ren (by rfl) (by rfl) rfl (en_one q) s7 rfl ?_; rintro w8 s8; have lq : (loadG 43 (.pointer (some ⟨P, 0, none⟩))).run Tryz.prog w8 = .ok (.agg q.cells.toArray) w8 := run_loadG (o := 0) agg_ren rfl s8.rowAll)
                      | (go_at_call 30; refine short_c s8 ?_; rintro w9 s9; rw [HZ.out]))
                    exact HK.out _ false (St.drop (St.drop s9)) (by intro h; cases h)
                  | true =>
                    go_wp2_with (first
                      | (refine wpl_allocA rfl rfl zero_enTo sr ?_; rintro P w7 s7)
                      | (refine wpl_storeA (vs := q.cells) rfl (.tmp 6) (.tmp 48) (by rfl) agg_ren (by rfl) (by rfl) rfl (en_one q) s7 rfl ?_; rintro w8 s8; have lq : (loadG 43 (.pointer (some ⟨P, 0, none⟩))).run Tryz.prog w8 = .ok (.agg q.cells.toArray) w8 := run_loadG (o := 0) agg_ren rfl s8.rowAll)
                      | (go_at_call 30; refine short_c s8 ?_; rintro w9 s9; rw [HZ.out]))
                    go_roundw
                    case rel => exact ⟨i + 1, by omega, by go_num, St.drop s9⟩
                    case measure => simp [intOf]; omega
                · have hie : en = i := by omega
                  subst hie
                  go_wp2_with fail
                  exact HK.out _ true sr.drop (fun _ => ⟨by have := of_decide_eq_false e0; omega, by have := of_decide_eq_false e1; omega, by have := of_decide_eq_false e2; omega⟩)

end

end Go.Proofs.YtojfjbbggpfijaaGreatDoor

/- A mill's acts, as they come in; Few. Printed by mkActR.py. -/
namespace Go.Proofs.YtojfjbbggpfijaaGreatDoor
open Go.RowKit Go.Qd Go.ChangeShapes Go.WideShapes Go.ChangeAt

/-- An act with a mill. -/
structure MAct where
  kind : Int
  peer : Int
  aa : Option Addr
  an : Nat
  ac : Nat
  ps : List Int
  key : ByteArray
  e : EnV
  m : MsgV
  ks : List MkV
  es : List EnV
def MAct.cells (x : MAct) : List Value := [.int .i64 x.kind, .int .i64 x.peer, .slice x.aa x.an x.ac, .string x.key] ++ (x.e.cells ++ x.m.cells)
def mactC (l : List MAct) : List Value := (l.map MAct.cells).flatten
def MAct.reads (W : World) (x : MAct) : Prop := RdS W 1 x.aa x.an x.ac (ivs x.ps) ∧ x.m.reads W x.ks x.es
def MAct.few (x : MAct) : Prop := x.an ≤ 20 ∧ x.m.pn ≤ 20 ∧ x.m.mn ≤ 20 ∧ x.m.en ≤ 20
theorem mact_one (x : MAct) : ∀ u ∈ x.cells, u.oneCell' = true := by
  intro u hu
  rcases List.mem_append.1 hu with h | h
  · simp only [List.mem_cons, List.not_mem_nil, or_false] at h
    rcases h with rfl | rfl | rfl | rfl <;> rfl
  · rcases List.mem_append.1 h with h | h
    · exact en_one _ u h
    · exact msg_one _ u h

set_option maxRecDepth 100000 in
set_option maxHeartbeats 1000000 in
theorem mact_cells {H : Type} {enc : TypeId × Value → H} {W : World} {base : Nat} {sp : Nat → Bool} {m : Nat} {cs : List Value} {y : DataW H × List MemPlace}
    (h : DataW.trod enc Tryz.prog W base sp true m 52 cs = some y) : ∃ x : MAct, cs = x.cells ∧ x.reads W := by
  obtain ⟨xs, k, rfl, rfl, hl, hx, hfs⟩ := DataW.trod_struct Tryz.underlying52 h
  have cE : Tryz.prog.cellsOf 52 = 25 := by kernel_rfl
  rw [cE] at hl
  have c_0 : Tryz.prog.cellsOf 3 = 1 := by kernel_rfl
  have c_1 : Tryz.prog.cellsOf 24 = 1 := by kernel_rfl
  have c_2 : Tryz.prog.cellsOf 9 = 1 := by kernel_rfl
  have c_3 : Tryz.prog.cellsOf 43 = 9 := by kernel_rfl
  have c_4 : Tryz.prog.cellsOf 50 = 12 := by kernel_rfl
  match cs, hl with
  | [u0, u1, u2, u3, u4, u5, u6, u7, u8, u9, u10, u11, u12, u13, u14, u15, u16, u17, u18, u19, u20, u21, u22, u23, u24], _ =>
    have hx' : xs.length = 6 := hx
    have h0 : DataW.trod enc Tryz.prog W base sp true k 3 (([u0, u1, u2, u3, u4, u5, u6, u7, u8, u9, u10, u11, u12, u13, u14, u15, u16, u17, u18, u19, u20, u21, u22, u23, u24].drop 0).take (Tryz.prog.cellsOf 3)) = xs[0]? := hfs 0 _ rfl
    have h1 : DataW.trod enc Tryz.prog W base sp true k 3 (([u0, u1, u2, u3, u4, u5, u6, u7, u8, u9, u10, u11, u12, u13, u14, u15, u16, u17, u18, u19, u20, u21, u22, u23, u24].drop 1).take (Tryz.prog.cellsOf 3)) = xs[1]? := hfs 1 _ rfl
    have h2 : DataW.trod enc Tryz.prog W base sp true k 24 (([u0, u1, u2, u3, u4, u5, u6, u7, u8, u9, u10, u11, u12, u13, u14, u15, u16, u17, u18, u19, u20, u21, u22, u23, u24].drop 2).take (Tryz.prog.cellsOf 24)) = xs[2]? := hfs 2 _ rfl
    have h3 : DataW.trod enc Tryz.prog W base sp true k 9 (([u0, u1, u2, u3, u4, u5, u6, u7, u8, u9, u10, u11, u12, u13, u14, u15, u16, u17, u18, u19, u20, u21, u22, u23, u24].drop 3).take (Tryz.prog.cellsOf 9)) = xs[3]? := hfs 3 _ rfl
    have h4 : DataW.trod enc Tryz.prog W base sp true k 43 (([u0, u1, u2, u3, u4, u5, u6, u7, u8, u9, u10, u11, u12, u13, u14, u15, u16, u17, u18, u19, u20, u21, u22, u23, u24].drop 4).take (Tryz.prog.cellsOf 43)) = xs[4]? := hfs 4 _ rfl
    have h5 : DataW.trod enc Tryz.prog W base sp true k 50 (([u0, u1, u2, u3, u4, u5, u6, u7, u8, u9, u10, u11, u12, u13, u14, u15, u16, u17, u18, u19, u20, u21, u22, u23, u24].drop 13).take (Tryz.prog.cellsOf 50)) = xs[5]? := hfs 5 _ rfl
    rw [List.getElem?_eq_getElem (by omega)] at h0 h1 h2 h3 h4 h5
    simp only [c_0, c_1, c_2, c_3, c_4, List.drop_zero, List.drop_succ_cons, List.take_succ_cons, List.take_zero] at h0 h1 h2 h3 h4 h5
    obtain ⟨kd, e0, r0⟩ := int_cells Tryz.underlying3 h0
    obtain ⟨pe, e1, r1⟩ := int_cells Tryz.underlying3 h1
    obtain ⟨aa, an, ac, e2⟩ := slice_shape Tryz.underlying24 h2
    obtain ⟨key, e3, _, q3⟩ := DataW.trod_string Tryz.underlying9 h3
    obtain ⟨e, e4⟩ := ren_cells h4
    obtain ⟨x, ks, es, e5, r5⟩ := rmsg_cells h5
    simp at e0
    subst e0
    simp at e1
    subst e1
    simp at e3
    subst e3
    subst e2
    obtain ⟨ps, rp, _⟩ := ints_of_trod' Tryz.underlying24 Tryz.underlying3 (by kernel_rfl) h2
    exact ⟨⟨kd, pe, aa, an, ac, ps, key, e, x, ks, es⟩, by rw [MAct.cells, ← e4, ← e5]; rfl, rp, r5⟩

theorem macts_of_trod {H : Type} {enc : TypeId × Value → H} {W : World} {base : Nat} {sp : Nat → Bool} {a : Option Addr} {n c : Nat} {d : DataW H} {p : List MemPlace}
    (h : DataW.Trod enc Tryz.prog W base sp true 25 (.slice a n c) d p) : ∃ l : List MAct, RdS W 25 a n c (mactC l) ∧ ∀ x ∈ l, x.reads W := by
  obtain ⟨fuel, hf⟩ := h
  exact slice_cells MAct.cells (fun x => x.reads W) mact_one (by decide) Tryz.underlying25 (by kernel_rfl : Tryz.prog.cellsOf 52 = 25) (fun _ _ _ h => mact_cells h) (by simpa [Value.cells] using hf)
theorem draws_of_trod {H : Type} {enc : TypeId × Value → H} {W : World} {base : Nat} {sp : Nat → Bool} {a : Option Addr} {n c : Nat} {d : DataW H} {p : List MemPlace}
    (h : DataW.Trod enc Tryz.prog W base sp true 24 (.slice a n c) d p) : ∃ l : List Int, RdS W 1 a n c (ivs l) ∧ ∀ x ∈ l, True := by
  obtain ⟨fuel, hf⟩ := h
  obtain ⟨ps, rp, _⟩ := ints_of_trod' (fuel := fuel) Tryz.underlying24 Tryz.underlying3 (by kernel_rfl) (by simpa [Value.cells] using hf)
  exact ⟨ps, rp, fun _ _ => trivial⟩

theorem mactC_sz (l : List MAct) : (mactC l).length = l.length * 25 := by
  induction l with
  | nil => rfl
  | cons x l ih => show (x.cells ++ mactC l).length = _; rw [List.length_append, ih, List.length_cons]; simp [MAct.cells, MsgV.cells, EnV.cells]; omega
theorem mactC_ln {w : World} {ao : Option Addr} {n c : Nat} {l : List MAct} (rd : RdS w 25 ao n c (mactC l)) : l.length = n := by have := rd.len; rw [mactC_sz] at this; omega
theorem mactC_get {l : List MAct} {i : Nat} (hi : i < l.length) {j : Nat} {u : Value} (h : l[i].cells[j]? = some u) : (mactC l)[i * 25 + j]? = some u := by
  have hj : j < 25 := by
    rcases Nat.lt_or_ge j 25 with g | g
    · exact g
    · rw [List.getElem?_eq_none (by simpa [MAct.cells, MsgV.cells, EnV.cells] using g)] at h; cases h
  have := flat_get (css := l.map MAct.cells) (sz := 25) (fun cs hc => by obtain ⟨x, _, rfl⟩ := List.mem_map.1 hc; rfl) (i := i) (by simpa using hi) (j := j) hj
  unfold mactC; rw [this, List.getElem_map]; exact h
theorem agg_mact : AggT Tryz.prog 52 25 := ⟨⟨_, Tryz.underlying52, rfl⟩, by kernel_rfl⟩
theorem agg_rmsg : AggT Tryz.prog 50 12 := ⟨⟨_, Tryz.underlying50, rfl⟩, by kernel_rfl⟩
theorem mactLd {w : World} {b o n c i : Nat} {l : List MAct} (rd : RdS w 25 (some ⟨b, o, none⟩) n c (mactC l)) (hi : i < l.length) :
    (loadG 52 (.pointer (some ⟨b, o + i * 25, none⟩))).run Tryz.prog w = .ok (.agg l[i].cells.toArray) w := run_loadG agg_mact rfl (fun _ _ hu => rd.at2 (mactC_get hi hu))
def mact0 : MAct := ⟨0, 0, none, 0, 0, [], ByteArray.empty, en0, zeroM, [], []⟩
theorem zero_mact (w : World) : (zeroValue 52).run Tryz.prog w = .ok (.agg mact0.cells.toArray) w := by kernel_rfl
attribute [local go_sem ↓] execOp_ldAny

section
variable {W w : World} {R : List HP} {post : Ending → World → Prop}

theorem mactL {T : Nat} {x : MAct} (s : St W w (row T 0 x.cells :: R)) :
    ((loadG 3 (.pointer (some ⟨T, 0, none⟩))).run Tryz.prog w = .ok (.int .i64 x.kind) w ∧ (loadG 3 (.pointer (some ⟨T, 1, none⟩))).run Tryz.prog w = .ok (.int .i64 x.peer) w ∧
    (loadG 24 (.pointer (some ⟨T, 2, none⟩))).run Tryz.prog w = .ok (.slice x.aa x.an x.ac) w ∧ (loadG 9 (.pointer (some ⟨T, 3, none⟩))).run Tryz.prog w = .ok (.string x.key) w) ∧
    (loadG 43 (.pointer (some ⟨T, 4, none⟩))).run Tryz.prog w = .ok (.agg x.e.cells.toArray) w ∧ (loadG 50 (.pointer (some ⟨T, 13, none⟩))).run Tryz.prog w = .ok (.agg x.m.cells.toArray) w ∧
    (loadG 3 (.pointer (some ⟨T, 13, none⟩))).run Tryz.prog w = .ok (.int .i64 x.m.kind) w ∧ (loadG 48 (.pointer (some ⟨T, 24, none⟩))).run Tryz.prog w = .ok (.slice x.m.ea x.m.en x.m.eq) w := by
  have f : ∀ i v, x.cells[i]? = some v → w.cell? ⟨T, i, none⟩ = some v := fun i v hv => by have := s.rowCell hv; rwa [Nat.zero_add] at this
  exact ⟨⟨run_ldP (by kernel_rfl) (f 0 _ rfl), run_ldP (by kernel_rfl) (f 1 _ rfl), run_ldP (by kernel_rfl) (f 2 _ rfl), run_ldP (by kernel_rfl) (f 3 _ rfl)⟩,
    run_loadG (o := 0 + 4) agg_ren (vs := x.e.cells) rfl (St.rowPart s 4 (xs := x.e.cells) (ys := x.m.cells) (by simp [MAct.cells])),
    run_loadG (o := 0 + 13) agg_rmsg (vs := x.m.cells) rfl (St.rowPart s 13 (xs := x.m.cells) (ys := []) (by simp [MAct.cells, EnV.cells])),
    run_ldP (by kernel_rfl) (f 13 _ rfl), run_ldP (by kernel_rfl) (f 24 _ rfl)⟩

set_option maxRecDepth 100000 in
set_option maxHeartbeats 8000000 in
theorem few20_c {la : Option Addr} {ln lc : Nat} {l : List MAct} (st : St W w R) (hl : Rds W R 25 la ln lc (mactC l)) (hr : ∀ x ∈ l, x.reads W)
    (K : ∀ w' b, St W w' R → (b = true → ln ≤ 50 ∧ ∀ x ∈ l, x.few) → post (.returned (.bool b)) w') :
    Calls Tryz.prog 7 #[.slice la ln lc] w post := by
  have HK := hid K; clear K
  have HL := hid hl; have HR := hid hr
  have HN : Hid (l.length = ln) := hid (mactC_ln (hl w st))
  have hln : ln ≤ 9223372036854775807 := (hl w st).big
  have HLN := hid hln
  obtain ⟨b1, e1⟩ : ∃ b, decide ((ln : Int) ≤ 50) = b := ⟨_, rfl⟩
  clear hl hr hln
  go_enter Tryz.func7, Tryz.ntmps7
  go_wp2_with fail
  go_loopw [7] (fun ii wr => ∃ i : Nat, i ≤ ln ∧ ii = .int .i64 i ∧ Hid (∀ x ∈ l.take i, x.few) ∧ St W wr R) (fun ii _ => ln - (intOf ii).toNat)
  case atStart => exact ⟨0, Nat.zero_le _, rfl, hid (fun _ h => by cases h), st⟩
  case round =>
    obtain ⟨i, hi, rfl, HA, sr⟩ := hrel
    by_cases hlt : i < ln
    · have hi2 : (i : Int) < (ln : Int) := by omega
      have hbig := HLN.out
      have rd := HL.out _ sr
      obtain ⟨g3, o3, rfl⟩ := rd.addr (by omega)
      have hiA : i < l.length := by rw [HN.out]; exact hlt
      have ci := mactLd rd hiA
      have hq0 := HR.out _ (List.getElem_mem hiA)
      have hts : l.take (i + 1) = l.take i ++ [l[i]] := List.take_succ_eq_append_getElem hiA
      obtain ⟨q, hq⟩ : ∃ q, l[i] = q := ⟨_, rfl⟩
      rw [hq] at ci hq0 hts
      have HQ := hid hq0
      have HTS := hid hts
      obtain ⟨t0, d0⟩ : ∃ t, decide (40 < (q.key.size : Int)) = t := ⟨_, rfl⟩
      obtain ⟨na, hna⟩ : ∃ na, q.an = na := ⟨_, rfl⟩
      have HNA := hid hna
      obtain ⟨t1, d1⟩ : ∃ t, decide (20 < (na : Int)) = t := ⟨_, rfl⟩
      obtain ⟨t2, d2⟩ : ∃ t, shortB q.e = t := ⟨_, rfl⟩
      have HS := hid d2
      clear hq rd hiA hq0 hts hna d2
      go_upto_region 4 with (first
        | (refine wpl_allocA rfl rfl zero_mact sr ?_; rintro P w7 s7)
        | (refine wpl_storeA (vs := q.cells) rfl (.tmp 4) (.tmp 10) (by rfl) agg_mact (by rfl) (by rfl) rfl (mact_one q) s7 rfl ?_; rintro w8 s8; obtain ⟨⟨_, _, k2, k3⟩, k4, k5, _, _⟩ := mactL s8; rw [HNA.out] at k2))
      cases t0 with
      | true =>
        go_wp2_with fail
        exact HK.out _ false s8.drop (by intro h; cases h)
      | false =>
        cases t1 with
        | true =>
          go_wp2_with fail
          exact HK.out _ false s8.drop (by intro h; cases h)
        | false =>
          cases t2 with
          | false =>
            go_wp2_with (go_at_call 30; refine short_c (e := q.e) s8 ?_; rintro w9 s9; rw [HS.out])
            exact HK.out _ false s9.drop (by intro h; cases h)
          | true =>
            go_wp2_with (first
              | (go_at_call 30; refine short_c (e := q.e) s8 ?_; rintro w9 s9; rw [HS.out]; have k6 := (mactL s9).2.2.1)
              | (go_at_call 31; refine few16_c s9 (HQ.out.2.2.1.rds _) (HQ.out.2.2.2.rds _) ?_; rintro wa b sa hb; have HB := hid hb; clear hb))
            · exact HK.out _ false sa.drop (by intro h; cases h)
            · go_roundw
              case rel => exact ⟨i + 1, by omega, by go_num, hid (by
                rw [HTS.out]; intro x hx
                rcases List.mem_append.1 hx with h | h
                · exact HA.out x h
                · have : x = q := by simpa using h
                  have hf := HB.out (by rename_i hz; revert hz; clear HB; cases b <;> simp)
                  have h1 := of_decide_eq_false d1
                  have h2 := HNA.out
                  rw [this]; exact ⟨by omega, hf⟩), sa.drop⟩
              case measure => simp [intOf]; omega
    · have hie : ln = i := by omega
      subst hie
      have ha := HA.out
      rw [List.take_of_length_le (by rw [HN.out]; exact Nat.le_refl _)] at ha
      have HA2 := hid ha
      clear ha
      cases b1 with
      | false =>
        go_wp2_with fail
        exact HK.out _ false sr (by intro h; cases h)
      | true =>
        go_wp2_with fail
        exact HK.out _ true sr (fun _ => ⟨by have := of_decide_eq_true e1; omega, HA2.out⟩)
end

end Go.Proofs.YtojfjbbggpfijaaGreatDoor
