/- Runs: several texts, joined. The overlay's acts, as they come in; Few. Printed by mkActsO.py. -/
import Derived.Test.YtbpdchaeakihkaaGreatReadsM
import Derived.Test.YtbpdchaeakihkaaGreatFewA
import Derived.Test.YtbpdchaeakihkaaGreatLeaveA
namespace Go.Proofs.YtbpdchaeakihkaaGreat
open Go.RowKit Go.Qd Go.ChangeShapes Go.WideShapes Go.ChangeAt

structure OAct where
  kind : Int
  peer : Int
  m : MsgV
  ks : List MkV
  es : List EnV
def OAct.cells (x : OAct) : List Value := [.int .i64 x.kind, .int .i64 x.peer] ++ x.m.cells
def oactC (l : List OAct) : List Value := (l.map OAct.cells).flatten
def OAct.few (x : OAct) : Prop := x.m.pn ≤ 20 ∧ x.m.mn ≤ 20 ∧ x.m.en ≤ 20
theorem oact_one (x : OAct) : ∀ u ∈ x.cells, u.oneCell' = true := by
  intro u hu
  rcases List.mem_cons.1 hu with rfl | hu
  · rfl
  · rcases List.mem_cons.1 hu with rfl | hu
    · rfl
    · exact msg_one _ u hu

set_option maxRecDepth 100000 in
set_option maxHeartbeats 1000000 in
theorem oact_cells {H : Type} {enc : TypeId × Value → H} {W : World} {base : Nat} {sp : Nat → Bool} {m : Nat} {cs : List Value} {y : DataW H × List MemPlace}
    (h : DataW.trod enc Tryz.prog W base sp true m 77 cs = some y) : ∃ x : OAct, cs = x.cells ∧ x.m.reads W x.ks x.es := by
  obtain ⟨xs, k, rfl, rfl, hl, hx, hfs⟩ := DataW.trod_struct Tryz.underlying77 h
  have cE : Tryz.prog.cellsOf 77 = 14 := by kernel_rfl
  rw [cE] at hl
  have c_0 : Tryz.prog.cellsOf 3 = 1 := by kernel_rfl
  have c_1 : Tryz.prog.cellsOf 75 = 12 := by kernel_rfl
  match cs, hl with
  | [u0, u1, u2, u3, u4, u5, u6, u7, u8, u9, u10, u11, u12, u13], _ =>
    have hx' : xs.length = 3 := hx
    have h0 : DataW.trod enc Tryz.prog W base sp true k 3 (([u0, u1, u2, u3, u4, u5, u6, u7, u8, u9, u10, u11, u12, u13].drop 0).take (Tryz.prog.cellsOf 3)) = xs[0]? := hfs 0 _ rfl
    have h1 : DataW.trod enc Tryz.prog W base sp true k 3 (([u0, u1, u2, u3, u4, u5, u6, u7, u8, u9, u10, u11, u12, u13].drop 1).take (Tryz.prog.cellsOf 3)) = xs[1]? := hfs 1 _ rfl
    have h2 : DataW.trod enc Tryz.prog W base sp true k 75 (([u0, u1, u2, u3, u4, u5, u6, u7, u8, u9, u10, u11, u12, u13].drop 2).take (Tryz.prog.cellsOf 75)) = xs[2]? := hfs 2 _ rfl
    rw [List.getElem?_eq_getElem (by omega)] at h0 h1 h2
    simp only [c_0, c_1, List.drop_zero, List.drop_succ_cons, List.take_succ_cons, List.take_zero] at h0 h1 h2
    obtain ⟨kd, e0, r0⟩ := int_cells Tryz.underlying3 h0
    obtain ⟨pe, e1, r1⟩ := int_cells Tryz.underlying3 h1
    obtain ⟨x, ks, es, e2, r2⟩ := rmsg_cells h2
    simp at e0
    subst e0
    simp at e1
    subst e1
    exact ⟨⟨kd, pe, x, ks, es⟩, by rw [OAct.cells, ← e2]; rfl, r2⟩

theorem oacts_of_trod {H : Type} {enc : TypeId × Value → H} {W : World} {base : Nat} {sp : Nat → Bool} {a : Option Addr} {n c : Nat} {d : DataW H} {p : List MemPlace}
    (h : DataW.Trod enc Tryz.prog W base sp true 67 (.slice a n c) d p) : ∃ l : List OAct, RdS W 14 a n c (oactC l) ∧ ∀ x ∈ l, x.m.reads W x.ks x.es := by
  obtain ⟨fuel, hf⟩ := h
  exact slice_cells OAct.cells (fun x => x.m.reads W x.ks x.es) oact_one (by decide) Tryz.underlying67 (by kernel_rfl : Tryz.prog.cellsOf 77 = 14) (fun _ _ _ h => oact_cells h) (by simpa [Value.cells] using hf)

theorem oactC_sz (l : List OAct) : (oactC l).length = l.length * 14 := by
  induction l with
  | nil => rfl
  | cons x l ih => show (x.cells ++ oactC l).length = _; rw [List.length_append, ih, List.length_cons]; simp [OAct.cells, MsgV.cells]; omega
theorem oactC_ln {w : World} {ao : Option Addr} {n c : Nat} {l : List OAct} (rd : RdS w 14 ao n c (oactC l)) : l.length = n := by have := rd.len; rw [oactC_sz] at this; omega
theorem oactC_get {l : List OAct} {i : Nat} (hi : i < l.length) {j : Nat} {u : Value} (h : l[i].cells[j]? = some u) : (oactC l)[i * 14 + j]? = some u := by
  have hj : j < 14 := by
    rcases Nat.lt_or_ge j 14 with g | g
    · exact g
    · rw [List.getElem?_eq_none (by simpa [OAct.cells, MsgV.cells] using g)] at h; cases h
  have := flat_get (css := l.map OAct.cells) (sz := 14) (fun cs hc => by obtain ⟨x, _, rfl⟩ := List.mem_map.1 hc; rfl) (i := i) (by simpa using hi) (j := j) hj
  unfold oactC; rw [this, List.getElem_map]; exact h
theorem agg_oact : AggT Tryz.prog 77 14 := ⟨⟨_, Tryz.underlying77, rfl⟩, by kernel_rfl⟩
theorem agg_rmsg : AggT Tryz.prog 75 12 := ⟨⟨_, Tryz.underlying75, rfl⟩, by kernel_rfl⟩
theorem oactLd {w : World} {b o n c i : Nat} {l : List OAct} (rd : RdS w 14 (some ⟨b, o, none⟩) n c (oactC l)) (hi : i < l.length) :
    (loadG 77 (.pointer (some ⟨b, o + i * 14, none⟩))).run Tryz.prog w = .ok (.agg l[i].cells.toArray) w := run_loadG agg_oact rfl (fun _ _ hu => rd.at2 (oactC_get hi hu))
def oact0 : OAct := ⟨0, 0, zeroM, [], []⟩
theorem zero_oact (w : World) : (zeroValue 77).run Tryz.prog w = .ok (.agg oact0.cells.toArray) w := by kernel_rfl
attribute [local go_sem ↓] execOp_ldAny

section
variable {W w : World} {R : List HP} {post : Ending → World → Prop}

theorem oactL {T : Nat} {x : OAct} (s : St W w (row T 0 x.cells :: R)) :
    (loadG 3 (.pointer (some ⟨T, 0, none⟩))).run Tryz.prog w = .ok (.int .i64 x.kind) w ∧ (loadG 3 (.pointer (some ⟨T, 1, none⟩))).run Tryz.prog w = .ok (.int .i64 x.peer) w ∧
    (loadG 75 (.pointer (some ⟨T, 2, none⟩))).run Tryz.prog w = .ok (.agg x.m.cells.toArray) w := by
  have c0 := s.rowCell (i := 0) (v := .int .i64 x.kind) rfl
  have c1 := s.rowCell (i := 1) (v := .int .i64 x.peer) rfl
  rw [Nat.zero_add] at c1
  exact ⟨run_ldP (by kernel_rfl) c0, run_ldP (by kernel_rfl) c1, run_loadG (o := 0 + 2) agg_rmsg (vs := x.m.cells) rfl (St.rowPart s 2 (xs := x.m.cells) (ys := []) (by simp [OAct.cells]))⟩

set_option maxRecDepth 100000 in
set_option maxHeartbeats 4000000 in
theorem few17_c {la da : Option Addr} {ln lc dn dc : Nat} {l : List OAct} (st : St W w R) (hl : Rds W R 14 la ln lc (oactC l)) (hr : ∀ x ∈ l, x.m.reads W x.ks x.es)
    (K : ∀ w' b, St W w' R → (b = true → ln ≤ 60 ∧ dn ≤ 200 ∧ ∀ x ∈ l, x.few) → post (.returned (.bool b)) w') :
    Calls Tryz.prog 23 #[.slice la ln lc, .slice da dn dc] w post := by
  have HK := hid K; clear K
  have HL := hid hl; have HR := hid hr
  have HN : Hid (l.length = ln) := hid (oactC_ln (hl w st))
  have hln : ln ≤ 9223372036854775807 := (hl w st).big
  have HLN := hid hln
  obtain ⟨b1, e1⟩ : ∃ b, decide ((ln : Int) ≤ 60) = b := ⟨_, rfl⟩
  obtain ⟨b2, e2⟩ : ∃ b, decide ((dn : Int) ≤ 200) = b := ⟨_, rfl⟩
  clear hl hr hln
  go_enter Tryz.func23, Tryz.ntmps23
  go_wp2_with fail
  go_loopw [9] (fun ii wr => ∃ i : Nat, i ≤ ln ∧ ii = .int .i64 i ∧ Hid (∀ x ∈ l.take i, x.few) ∧ St W wr R) (fun ii _ => ln - (intOf ii).toNat)
  case atStart => exact ⟨0, Nat.zero_le _, rfl, hid (fun _ h => by cases h), st⟩
  case round =>
    obtain ⟨i, hi, rfl, HA, sr⟩ := hrel
    by_cases hlt : i < ln
    · have hi2 : (i : Int) < (ln : Int) := by omega
      have hbig := HLN.out
      have rd := HL.out _ sr
      obtain ⟨g3, o3, rfl⟩ := rd.addr (by omega)
      have hiA : i < l.length := by rw [HN.out]; exact hlt
      have ci := oactLd rd hiA
      have hq0 := HR.out _ (List.getElem_mem hiA)
      have hts : l.take (i + 1) = l.take i ++ [l[i]] := List.take_succ_eq_append_getElem hiA
      obtain ⟨q, hq⟩ : ∃ q, l[i] = q := ⟨_, rfl⟩
      rw [hq] at ci hq0 hts
      have HQ := hid hq0
      have HTS := hid hts
      clear hq rd hiA hq0 hts
      go_wp2_with (first
        | (refine wpl_allocA rfl rfl zero_oact sr ?_; rintro P w7 s7)
        | (refine wpl_storeA (vs := q.cells) rfl (.tmp 6) (.tmp 12) (by rfl) agg_oact (by rfl) (by rfl) rfl (oact_one q) s7 rfl ?_; rintro w8 s8; obtain ⟨_, _, k2⟩ := oactL s8)
        | (go_at_call 58; refine few16_c s8 (HQ.out.2.1.rds _) (HQ.out.2.2.rds _) ?_; rintro w9 b s9 hb; have HB := hid hb; clear hb))
      · exact HK.out _ false s9.drop (by intro h; cases h)
      · go_roundw
        case rel => exact ⟨i + 1, by omega, by go_num, hid (by
          rw [HTS.out]; intro x hx
          rcases List.mem_append.1 hx with h | h
          · exact HA.out x h
          · have : x = q := by simpa using h
            rw [this]; exact HB.out (by rename_i hz; revert hz; clear HB; cases b <;> simp)), s9.drop⟩
        case measure => simp [intOf]; omega
    · have hie : ln = i := by omega
      subst hie
      have ha := HA.out
      rw [List.take_of_length_le (by rw [HN.out]; exact Nat.le_refl _)] at ha
      have HA2 := hid ha
      clear ha
      cases b1 with
      | false =>
        go_wp2_with fail
        exact HK.out _ false sr (by intro h; cases h)
      | true =>
        cases b2 with
        | false =>
          go_wp2_with fail
          exact HK.out _ false sr (by intro h; cases h)
        | true =>
          go_wp2_with fail
          exact HK.out _ true sr (fun _ => ⟨by have := of_decide_eq_true e1; omega, by have := of_decide_eq_true e2; omega, HA2.out⟩)
end

end Go.Proofs.YtbpdchaeakihkaaGreat

/- The overlay's acts: Take of whatever message; run. -/
namespace Go.Proofs.YtbpdchaeakihkaaGreat
open Go.RowKit Go.Qd

def takeO (O : OV) (p : Int) (m : MsgV) (k : Nat) (pa : Option Addr) (pn pc : Nat) : OV :=
  match k with
  | 1 => take1O O p
  | 2 => forwardO (heardO O p) p m pa pc
  | 3 => neighborO (heardO O p) p m.high
  | 4 => answerO (heardO O p) p true
  | 5 => answerO (heardO O p) p false
  | 6 => lowerO (heardO O p) p
  | 7 => shuffleO (heardO O p) p m pa pn pc
  | 8 => learnAllO (heardO O p) m.ps
  | _ => heardO O p
/-- Does a message, of whatever kind, fit? -/
def fitsAll (O : OV) (m : MsgV) : Bool := decide (1 ≤ m.kind) && (decide (m.kind ≤ 9) && fitsB O m m.kind.toNat)
inductive TakeR (O : OV) (p : Int) (m : MsgV) : OV → Int → Prop
  | no (hn : onodeB O p = false) : TakeR O p m O 1
  | bad (hn : onodeB O p = true) (hf : fitsAll O m = false) : TakeR O p m O 4
  | yes (hn : onodeB O p = true) (k : Nat) (h1 : 1 ≤ k) (h9 : k ≤ 9) (hk : m.kind = k) (hf : fitsB O m k = true) (pa : Option Addr) (pn pc : Nat) : TakeR O p m (takeO O p m k pa pn pc) 0

section
variable {W w : World} {R : List HP} {post : Ending → World → Prop} {b d : Nat} {O : OV} {m : MsgV} {p : Int} {ks : List MkV} {es : List EnV}

theorem fresh_same (hL : O.L = []) (hC : O.C = []) : freshO O = O := by cases O; simp only at hL hC; subst hL hC; rfl
theorem fresh_out (hL : O.L = []) (hC : O.C = []) (s : St W w (OvA b d O :: R)) : St W w (OvA b d (freshO O) :: OwnS 13 none 0 0 (letC O.L) :: OwnS 2 none 0 0 (chC O.C) :: sepL (O.L.map LetV.own) :: R) := by
  rw [fresh_same hL hC, hL, hC]
  exact (OwnS.none0 (sz := 13) (OwnS.none0 (sz := 2) s.empD)).perm [3, 0, 0]

theorem take_any (st : St W w (OvA b d O :: R)) (h : OOK O) (hL : O.L = []) (hC : O.C = []) (hp : Rds W R 1 m.pa m.pn m.pc (ivs m.ps)) (hpn : m.pn ≤ 1000) (hpM : Rds W R 3 m.ma m.mn m.mq (mkC ks)) (hnM : m.mn ≤ 1000)
    (hpE : Rds W R 9 m.ea m.en m.eq (enC es)) (hnE : m.en ≤ 1000)
    (K : ∀ X e la ln lc ca cn cc w', TakeR O p m X e → St W w' (OvA b d (freshO X) :: OwnS 13 la ln lc (letC X.L) :: OwnS 2 ca cn cc (chC X.C) :: sepL (X.L.map LetV.own) :: R) →
      post (.returned (.tuple #[.slice la ln lc, .slice ca cn cc, .int .i64 e])) w') :
    Calls Tryz.prog 22 #[.pointer (some ⟨b, 0, none⟩), .int .i64 p, .agg m.cells.toArray] w post := by
  have l0 : O.L.length ≤ 100 := by rw [hL]; decide
  have c0 : O.C.length ≤ 100 := by rw [hC]; decide
  cases hn : onodeB O p with
  | false => exact take_no1 st h hn (fun w' s => K O 1 _ _ _ _ _ _ w' (.no hn) (fresh_out hL hC s))
  | true =>
    by_cases hk : 1 ≤ m.kind ∧ m.kind < 20
    · obtain ⟨k, hkk⟩ := Int.eq_ofNat_of_zero_le (show 0 ≤ m.kind by omega)
      by_cases h9 : k ≤ 9
      · cases hf : fitsB O m k with
        | false =>
          refine take_no4 st h hn (fun w1 p1 X s1 k1 => ?_) (fun w' s => K O 4 _ _ _ _ _ _ w' (.bad hn (by unfold fitsAll; rw [hkk, Int.toNat_natCast, hf]; simp)) (fresh_out hL hC s))
          exact fits_c (by omega) h9 hkk hp.cons.cons (by omega) s1 h.cl (by rw [hf]; exact k1)
        | true =>
          have hcase : k = 1 ∨ k = 2 ∨ k = 3 ∨ k = 4 ∨ k = 5 ∨ k = 6 ∨ k = 7 ∨ k = 8 ∨ k = 9 := by omega
          have Y := fun pa pn pc => TakeR.yes hn k (by omega) h9 hkk hf pa pn pc
          rcases hcase with rfl | rfl | rfl | rfl | rfl | rfl | rfl | rfl | rfl
          · exact take1_c st h hn hkk hp.cons (by omega) hf l0 c0 (fun la ln lc ca cn cc w' s => K _ 0 _ _ _ _ _ _ w' (Y none 0 0) s)
          · exact take2_c st h hn hkk hp (by omega) hf l0 c0 (fun pa pc la ln lc ca cn cc w' s => K _ 0 _ _ _ _ _ _ w' (Y pa 0 pc) s)
          · exact take3_c st h hn hkk hp (by omega) hf l0 c0 (fun la ln lc ca cn cc w' s => K _ 0 _ _ _ _ _ _ w' (Y none 0 0) s)
          · exact take4_c st h hn hkk hp (by omega) hf l0 c0 (fun la ln lc ca cn cc w' s => K _ 0 _ _ _ _ _ _ w' (Y none 0 0) s)
          · exact take5_c st h hn hkk hp (by omega) hf l0 c0 (fun la ln lc ca cn cc w' s => K _ 0 _ _ _ _ _ _ w' (Y none 0 0) s)
          · exact take6_c st h hn hkk hp (by omega) hf l0 c0 (fun la ln lc ca cn cc w' s => K _ 0 _ _ _ _ _ _ w' (Y none 0 0) s)
          · exact take7_c st h hn hkk hp (by omega) hf l0 c0 (fun pa pn pc la ln lc ca cn cc w' s => K _ 0 _ _ _ _ _ _ w' (Y pa pn pc) s)
          · exact take8_c st h hn hkk hp (by omega) hf l0 c0 (fun la ln lc ca cn cc w' s => K _ 0 _ _ _ _ _ _ w' (Y none 0 0) s)
          · exact take9_c st h hn hkk hp (by omega) hf l0 c0 (fun la ln lc ca cn cc w' s => K _ 0 _ _ _ _ _ _ w' (Y none 0 0) s)
      · have hfa : fitsAll O m = false := by unfold fitsAll; rw [hkk, decide_eq_false (show ¬ ((k : Int) ≤ 9) by omega)]; simp
        refine take_no4 st h hn (fun w1 p1 X s1 k1 => ?_) (fun w' s => K O 4 _ _ _ _ _ _ w' (.bad hn hfa) (fresh_out hL hC s))
        exact fits_big (by omega) (by omega) hkk hp.cons.cons (by omega) hpM.cons.cons (by omega) hpE.cons.cons (by omega) s1 k1
    · have hfa : fitsAll O m = false := by
        unfold fitsAll
        by_cases h1 : 1 ≤ m.kind
        · rw [decide_eq_false (show ¬ (m.kind ≤ 9) by omega)]; simp
        · rw [decide_eq_false h1]; simp
      refine take_no4 st h hn (fun w1 p1 X s1 k1 => ?_) (fun w' s => K O 4 _ _ _ _ _ _ w' (.bad hn hfa) (fresh_out hL hC s))
      exact fits_none hk s1 k1

/-- What an act may bring about. -/
inductive StepR (O : OV) (x : OAct) : OV → Int → Prop
  | joinNo (hk : x.kind = 0) (hn : onodeB O x.peer = false) : StepR O x O 1
  | join (hk : x.kind = 0) (hn : onodeB O x.peer = true) : StepR O x { raiseO O x.peer with L := joinL O x.peer } 0
  | leave (hk : x.kind = 1) : StepR O x (leaveO O) 0
  | heardNo (hk : x.kind = 2) (hn : onodeB O x.peer = false) : StepR O x O 1
  | heard (hk : x.kind = 2) (hn : onodeB O x.peer = true) : StepR O x (heardO O x.peer) 0
  | take (hk : x.kind = 3) (ma : Option Addr) (mq : Nat) (ea : Option Addr) (eq : Nat) (X : OV) (e : Int) (h : TakeR O x.peer ((x.m.withM ma x.m.mn mq).withE ea x.m.en eq) X e) : StepR O x X e
  | tick (hk : x.kind ≠ 0 ∧ x.kind ≠ 1 ∧ x.kind ≠ 2 ∧ x.kind ≠ 3) (pa : Option Addr) (pn pc : Nat) : StepR O x (tickR O pa pn pc) 0
end

end Go.Proofs.YtbpdchaeakihkaaGreat

/- The overlay's acts: run. -/
namespace Go.Proofs.YtbpdchaeakihkaaGreat
open Go.RowKit Go.Qd

section
variable {W w : World} {R : List HP} {post : Ending → World → Prop} {b d : Nat} {O : OV} {x : OAct}
attribute [local go_sem ↓] execOp_ldAny

theorem fresh_join (O : OV) (p : Int) : freshO { raiseO O p with L := joinL O p } = freshO (raiseO O p) := rfl

set_option maxRecDepth 100000 in
set_option maxHeartbeats 8000000 in
theorem run_c (st : St W w (OvA b d O :: R)) (h : SOK O 1000000 0) (ht : 0 ≤ O.ticks ∧ O.ticks ≤ 1000000) (hs : 0 ≤ O.since ∧ O.since ≤ 4) (hr : x.m.reads W x.ks x.es) (hf : x.few)
    (K : ∀ X e la ln lc ca cn cc w', StepR O x X e → St W w' (OvA b d (freshO X) :: OwnS 13 la ln lc (letC X.L) :: OwnS 2 ca cn cc (chC X.C) :: sepL (X.L.map LetV.own) :: R) →
      post (.returned (.tuple #[.slice la ln lc, .slice ca cn cc, .int .i64 e])) w') :
    Calls Tryz.prog 24 #[.pointer (some ⟨b, 0, none⟩), .agg x.cells.toArray] w post := by
  have HK := hid K; clear K
  have HH := hid h
  have hC : O.C = [] := List.eq_nil_of_length_eq_zero (Nat.le_zero.1 h.cl)
  have HC := hid hC
  have l0 : O.L.length ≤ 100 := by rw [h.ll]; decide
  have c0 : O.C.length ≤ 100 := by rw [hC]; decide
  have HL0 := hid (And.intro l0 c0)
  have HT := hid ht; have HS := hid hs; have HR := hid hr; have HF := hid hf
  clear h ht hs hr hf hC l0 c0
  by_cases k0 : x.kind = 0
  · cases hn : onodeB O x.peer with
    | false =>
      have HN := hid hn
      have HK0 := hid k0
      clear hn k0
      go_enter Tryz.func24, Tryz.ntmps24
      go_wp2_with (first
        | (refine wpl_boxA (vs := x.cells) rfl (.tmp 1) rfl rfl st ?_; rintro T w1 s1; obtain ⟨t0, t1, t2⟩ := oactL s1; rw [HK0.out] at t0)
        | (go_at_call 15; refine join_no (St.pick 1 s1) HH.out.ok HN.out ?_))
      go_ret3
      exact HK.out _ _ _ _ _ _ _ _ _ (.joinNo HK0.out HN.out) (fresh_out HH.out.ll HC.out (St.drop s1))
    | true =>
      have HN := hid hn
      have HK0 := hid k0
      clear hn k0
      go_enter Tryz.func24, Tryz.ntmps24
      go_wp2_with (first
        | (refine wpl_boxA (vs := x.cells) rfl (.tmp 1) rfl rfl st ?_; rintro T w1 s1; obtain ⟨t0, t1, t2⟩ := oactL s1; rw [HK0.out] at t0)
        | (go_at_call 15; refine join_c (St.pick 1 s1) HH.out.ok HN.out HL0.out.1 HL0.out.2 ?_; rintro la ln lc ca cn cc w2 s2))
      go_ret3
      exact HK.out _ _ _ _ _ _ _ _ _ (.join HK0.out HN.out) (St.drop (St.pick 4 s2) |>.perm [])
  · by_cases k1 : x.kind = 1
    · have HK1 := hid k1
      clear k0 k1
      go_enter Tryz.func24, Tryz.ntmps24
      go_wp2_with (first
        | (refine wpl_boxA (vs := x.cells) rfl (.tmp 1) rfl rfl st ?_; rintro T w1 s1; obtain ⟨t0, t1, t2⟩ := oactL s1; rw [HK1.out] at t0)
        | (go_at_call 59; refine leave_c (St.pick 1 s1) HH.out.ok HL0.out.1 HL0.out.2 ?_; rintro la ln lc ca cn cc w2 s2))
      go_ret3
      exact HK.out _ _ _ _ _ _ _ _ _ (.leave HK1.out) (St.drop (St.pick 4 s2) |>.perm [])
    · by_cases k2 : x.kind = 2
      · cases hn : onodeB O x.peer with
        | false =>
          have HN := hid hn
          have HK2 := hid k2
          clear hn k0 k1 k2
          go_enter Tryz.func24, Tryz.ntmps24
          go_wp2_with (first
            | (refine wpl_boxA (vs := x.cells) rfl (.tmp 1) rfl rfl st ?_; rintro T w1 s1; obtain ⟨t0, t1, t2⟩ := oactL s1; rw [HK2.out] at t0)
            | (go_at_call 17; refine heard_no (St.pick 1 s1) HH.out.ok HN.out ?_))
          go_ret3
          exact HK.out _ _ _ _ _ _ _ _ _ (.heardNo HK2.out HN.out) (fresh_out HH.out.ll HC.out (St.drop s1))
        | true =>
          have HN := hid hn
          have HK2 := hid k2
          clear hn k0 k1 k2
          go_enter Tryz.func24, Tryz.ntmps24
          go_wp2_with (first
            | (refine wpl_boxA (vs := x.cells) rfl (.tmp 1) rfl rfl st ?_; rintro T w1 s1; obtain ⟨t0, t1, t2⟩ := oactL s1; rw [HK2.out] at t0)
            | (go_at_call 17; refine heard_c (St.pick 1 s1) HH.out.ok HN.out ?_; rintro w2 s2))
          go_ret3
          exact HK.out _ _ _ _ _ _ _ _ _ (.heard HK2.out HN.out) (fresh_out (by rw [(heardO_LC O x.peer).1]; exact HH.out.ll) (by rw [(heardO_LC O x.peer).2.1]; exact HC.out) (St.drop (St.pick 1 s2)))
      · by_cases k3 : x.kind = 3
        · have HK3 := hid k3
          clear k0 k1 k2 k3
          go_enter Tryz.func24, Tryz.ntmps24
          go_wp2_with (refine wpl_boxA (vs := x.cells) rfl (.tmp 1) rfl rfl st ?_; rintro T w1 s1; obtain ⟨t0, t1, t2⟩ := oactL s1; rw [HK3.out] at t0)
          have u := s1.drew
          have gA := oactL u
          have HG := hid (fun (w' : World) (R' : List HP) (s : St W w' (row T 0 x.cells :: R')) => (oactL s).2)
          go_region_held3 (fun w' => (loadG 3 (.pointer (some ⟨T, 1, none⟩))).run Tryz.prog w' = .ok (.int .i64 x.peer) w' ∧ (loadG 75 (.pointer (some ⟨T, 2, none⟩))).run Tryz.prog w' = .ok (.agg x.m.cells.toArray) w')
            (first
              | with_reducible exact gC
              | with_reducible exact gB
              | with_reducible exact gA.2)
            (first
              | (go_at_call 60; refine msgOf_c (ks := x.ks) (es := x.es) u (HR.out.2.1.rds _) (by have := HF.out.2.1; omega) (HR.out.2.2.rds _) (by have := HF.out.2.2; omega) ?_; rintro ma mq ea eq w3 s3; have gB := HG.out _ _ (St.pick 2 s3); have s4 := St.pick 3 s3)
              | (go_at_call 22; refine take_any (ks := x.ks) (es := x.es) s4 HH.out.ok HH.out.ll HC.out (HR.out.1.rds _) (by have := HF.out.1; show x.m.pn ≤ 1000; omega) (fun w' s => OwnS.rd s) (by have := HF.out.2.1; show x.m.mn ≤ 1000; omega) (fun w' s => OwnS.rd s.drop) (by have := HF.out.2.2; show x.m.en ≤ 1000; omega) ?_; rintro X e la ln lc ca cn cc w5 ht s5; have HTR := hid ht; clear ht; have gC := HG.out _ _ (St.pick 6 s5)))
          all_goals
            go_wp2_with fail
            go_ret3
            exact HK.out X e la ln lc ca cn cc _ (.take HK3.out ma mq ea eq X e HTR.out) (St.drop (St.pick 4 (St.drop (St.pick 4 (St.drop (St.pick 4 s5))))) |>.perm [])
        · have HK4 := hid (And.intro k0 (And.intro k1 (And.intro k2 k3)))
          have j0 : (x.kind == 0) = false := by simp [k0]
          have j1 : (x.kind == 1) = false := by simp [k1]
          have j2 : (x.kind == 2) = false := by simp [k2]
          have j3 : (x.kind == 3) = false := by simp [k3]
          clear k0 k1 k2 k3
          go_enter Tryz.func24, Tryz.ntmps24
          go_wp2_with (first
            | (refine wpl_boxA (vs := x.cells) rfl (.tmp 1) rfl rfl st ?_; rintro T w1 s1; obtain ⟨t0, t1, t2⟩ := oactL s1)
            | (go_at_call 18; refine tick_c (St.pick 1 s1) HH.out HT.out HS.out ?_; rintro pa pn pc la ln lc ca cn cc w2 s2))
          go_ret3
          exact HK.out _ _ _ _ _ _ _ _ _ (.tick HK4.out pa pn pc) (St.drop (St.pick 4 s2) |>.perm [])
end

end Go.Proofs.YtbpdchaeakihkaaGreat
