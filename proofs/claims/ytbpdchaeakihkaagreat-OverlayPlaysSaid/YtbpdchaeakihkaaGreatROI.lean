/- The document's overlay: Tick. -/
import Derived.Test.YtbpdchaeakihkaaGreatRovB
import Derived.Test.YtbpdchaeakihkaaGreatTellM
namespace Go.Proofs.YtbpdchaeakihkaaGreat
open Go.RowKit Go.Qd

/-! A tick's parts, as the document has them. -/
def ask1R (O : OV) : OV := if 0 ≤ O.asked then (if 4 ≤ O.since + 1 then { O with since := O.since + 1, asked := -1 } else { O with since := O.since + 1 }) else O
def wantR (O : OV) : Bool := decide (O.asked < 0) && (!decide (O.V.am ≤ (O.V.a.length : Int)) && decide (0 < O.V.p.length))
def ask2R (O : OV) : OV := { O with D := drawL O.D O.V.p.length, asked := pickV O.D O.V.p, since := 0, L := O.L ++ [⟨pickV O.D O.V.p, askM O⟩] }
theorem ask2_is (O : OV) (h : O.asked < 0) : (if wantR O = true then ask2R O else O) = askO2 O := by
  unfold askO2 wantR wantedL ask2R
  rw [decide_eq_true h, Bool.true_and]
  by_cases g : O.V.am ≤ (O.V.a.length : Int)
  · simp [g]
  · rw [decide_eq_false g, if_neg g]
    by_cases q : O.V.p = []
    · simp [q]
    · have hp : 0 < O.V.p.length := List.length_pos_iff.2 q
      rw [decide_eq_true hp, if_neg q]
      rfl
theorem ask_is (O : OV) (h : O.asked = -1 ∨ 0 ≤ O.asked) : (if wantR (ask1R O) = true then ask2R (ask1R O) else ask1R O) = askO O := by
  rcases h with h | h
  · have e1 : ask1R O = O := by unfold ask1R; rw [if_neg (by omega)]
    have e2 : askO1 O = O := by unfold askO1; rw [if_pos h]
    rw [e1, ask2_is O (by omega)]
    unfold askO
    rw [if_neg (fun g => g.1 h), e2]
  · by_cases g : 4 ≤ O.since + 1
    · have e1 : ask1R O = { O with since := O.since + 1, asked := -1 } := by unfold ask1R; rw [if_pos h, if_pos g]
      have e2 : askO1 O = { O with since := O.since + 1, asked := -1 } := by unfold askO1; rw [if_neg (by omega)]
      rw [e1, ask2_is _ (by show (-1 : Int) < 0; decide)]
      unfold askO
      rw [if_neg (fun q => by omega), e2]
    · have e1 : ask1R O = { O with since := O.since + 1 } := by unfold ask1R; rw [if_pos h, if_neg g]
      rw [e1]
      have e3 : wantR { O with since := O.since + 1 } = false := by unfold wantR; rw [decide_eq_false (by show ¬ O.asked < 0; omega)]; rfl
      rw [e3, if_neg Bool.noConfusion]
      unfold askO
      rw [if_pos ⟨by omega, by omega⟩]
theorem ask1_same (O : OV) : (ask1R O).V = O.V ∧ (ask1R O).L = O.L ∧ (ask1R O).C = O.C ∧ (ask1R O).cfg = O.cfg ∧ (ask1R O).heard = O.heard ∧ (ask1R O).D = O.D ∧ (ask1R O).ticks = O.ticks := by
  unfold ask1R
  split
  · split <;> exact ⟨rfl, rfl, rfl, rfl, rfl, rfl, rfl⟩
  · exact ⟨rfl, rfl, rfl, rfl, rfl, rfl, rfl⟩
theorem stepS_num (O : OV) (p : Int) : (stepS O p).asked = O.asked ∧ (stepS O p).since = O.since ∧ (stepS O p).ticks = O.ticks := by
  unfold stepS
  split
  · unfold lowerO; split <;> exact ⟨rfl, rfl, rfl⟩
  · exact ⟨rfl, rfl, rfl⟩
theorem silent_num (l : List Int) : ∀ O : OV, (silentO O l).asked = O.asked ∧ (silentO O l).since = O.since ∧ (silentO O l).ticks = O.ticks := by
  induction l with
  | nil => intro O; exact ⟨rfl, rfl, rfl⟩
  | cons x l ih =>
    intro O
    obtain ⟨a, b, c⟩ := ih (stepS O x)
    obtain ⟨d, e, f⟩ := stepS_num O x
    exact ⟨a.trans d, b.trans e, c.trans f⟩
theorem silent_SilI {O : OV} (h : SilI O O 0) (l : List Int) : SilI O (silentO O l) l.length := by
  have key : ∀ (l : List Int) (P : OV) (i : Nat), SilI O P i → SilI O (silentO P l) (i + l.length) := by
    intro l
    induction l with
    | nil => intro P i h; exact h
    | cons x l ih =>
      intro P i h
      have := ih (stepS P x) (i + 1) (h.step x)
      rw [show i + (x :: l).length = i + 1 + l.length from by rw [List.length_cons]; omega]
      exact this
  have := key l O 0 h
  rwa [Nat.zero_add] at this

theorem cfg_beat {O : OV} (h : OOK O) : 1 ≤ O.cfg.getD 10 0 ∧ O.cfg.getD 10 0 ≤ 1000000 := by
  have h1 := fine_lo (rightB_iff.1 h.r 10 (by decide))
  have h2 := fine_hi (rightB_iff.1 h.r 10 (by decide))
  simp [leastF] at h1
  simp [mostF] at h2
  simp; omega
theorem execOp_ldB (ρ : Operand → Value) (dst : Option Tmp) (a : Operand) (ty : TypeId) (pos : String) (after : Array Edge) (guard : Option (Nat × Bool)) :
    execOp ρ { dst, op := .load 83 a, type := ty, pos, after, guard } = (do pure (.value (← loadG 83 (ρ a)))) := rfl
theorem execOp_bM7 (ρ : Operand → Value) (dst : Option Tmp) (a b c d : Operand) (ty : TypeId) (pos : String) (after : Array Edge) (guard : Option (Nat × Bool)) :
    execOp ρ { dst, op := .build 75 #[(0, a), (1, b), (2, c), (4, d)], type := ty, pos, after, guard } = (do pure (.value (← bldM #[(0, ρ a), (1, ρ b), (2, ρ c), (4, ρ d)]))) := by simp [execOp, bldM]
theorem execOp_ldV (ρ : Operand → Value) (dst : Option Tmp) (a : Operand) (ty : TypeId) (pos : String) (after : Array Edge) (guard : Option (Nat × Bool)) :
    execOp ρ { dst, op := .load 93 a, type := ty, pos, after, guard } = (do pure (.value (← loadG 93 (ρ a)))) := rfl
def shufB (self hops : Int) (a : Option Addr) (n c : Nat) : MsgV := { kindM 7 with peer := self, hops := hops, pa := a, pn := n, pc := c }
theorem run_bM7 (self hops : Int) (a : Option Addr) (n c : Nat) (w : World) : (bldM #[(0, .int .i64 7), (1, .int .i64 self), (2, .int .i64 hops), (4, .slice a n c)]).run Tryz.prog w = .ok (.agg (shufB self hops a n c).cells.toArray) w := by kernel_rfl

section
variable {W w : World} {R : List HP} {post : Ending → World → Prop} {x : RO}
attribute [local go_sem ↓] execOp_bM1 execOp_bM3 execOp_bM7 execOp_ldRO execOp_stRO execOp_ldB execOp_ldV
attribute [local go_sem] run_bM1 run_bM3 run_bM7

set_option maxRecDepth 100000 in
set_option maxHeartbeats 16000000 in
theorem rtickO_c (h : OOK x.o) (hh : ∀ j : Nat, 0 ≤ x.o.heard.getD j 0 ∧ x.o.heard.getD j 0 ≤ 1000000) (ht : 0 ≤ x.o.ticks ∧ x.o.ticks ≤ 1000000) (hs : 0 ≤ x.o.since ∧ x.o.since ≤ 4) (ha : x.o.asked = -1 ∨ 0 ≤ x.o.asked)
    (st : St W w (x.mem W :: R)) (K : ∀ (x' : RO) pa pn pc w', x'.o = tickR (freshO x.o) pa pn pc → St W w' (x'.mem W :: R) → post (.returned (.agg x'.cells.toArray)) w') :
    Calls Tryz.prog 75 #[.agg x.cells.toArray] w post := by
  have HO := hid h
  have HH := hid h.ro
  have HHE := hid hh
  have HK := hid K; clear K
  obtain ⟨tk, htk⟩ : ∃ tk, x.o.ticks = tk := ⟨_, rfl⟩
  rw [htk] at ht
  have hwt : IntKind.i64.wrap (tk + 1) = tk + 1 := IntWalk.i64_in _ (by omega)
  have HTK := hid htk
  have HSA := hid (And.intro hs ha)
  have HP0 : Hid (OOK ({ freshO x.o with ticks := tk + 1 } : OV)) := hid ⟨h.v, h.cl, h.hl, h.r⟩
  have HI0 : Hid (SilI { freshO x.o with ticks := tk + 1 } { freshO x.o with ticks := tk + 1 } 0) := hid ⟨HP0.out, fun j => ⟨(hh j).1, by have := (hh j).2; show x.o.heard.getD j 0 ≤ _; omega⟩, Nat.le_refl _, rfl⟩
  have HAL : Hid (x.o.V.a.length ≤ 11) := hid (by have := h.v.la; have := h.v.am; omega)
  clear h hh hs ha htk
  go_enter Tryz.func75, Tryz.ntmps75
  go_upto_region 4 with (first
    | (refine wpl_boxA (vs := x.cells) rfl (.tmp 0) rfl rfl st ?_; rintro B w1 s1)
    | (refine wpl_allocA rfl rfl zeroRO_z s1 ?_; rintro E w2 s2)
    | (refine wpl_loadA (vs := x.cells) rfl (.tmp 1) (by rfl) aggRO (by rfl) (RO.len HH.out) (St.rowAll (o := 0) (St.pick 1 s2)) ?_)
    | (go_at_call 116; refine rfresh_c HH.out (St.pick 2 s2) ?_; rintro y w3 hy s3
       have HY := hid hy
       have HYO := hid (HO.out.freshRO hy)
       clear hy s2)
    | (refine wpl_storeA (vs := y.cells) rfl (.tmp 1) (.tmp 14) (by rfl) aggRO (by rfl) (by rfl) (RO.len HYO.out.ro) (RO.one _) (St.pick 2 s3) (RO.len HH.out) ?_; rintro w4 s4
       have c48 := (roC HYO.out.ro s4).2.2.2.1
       rw [show y.o.ticks = tk from by rw [HY.out]; exact HTK.out] at c48
       have f48 := roF HYO.out.ro s4 48 (by decide)
       have s5 := roSetT HYO.out.ro s4 (tk + 1))
    | (refine wpl_loadA (vs := (y.withT (tk + 1)).cells) rfl (.tmp 1) (by rfl) aggRO (by rfl) (RO.len HYO.out.ro) (St.rowAll (o := 0) s5) ?_)
    | (go_at_call 127; refine rsilent_c (x := y.withT (tk + 1)) (by rw [show (y.withT (tk + 1)).o = { freshO x.o with ticks := tk + 1 } from by show ({ y.o with ticks := tk + 1 } : OV) = _; rw [HY.out]]; exact HP0.out) (fun j => by show 0 ≤ y.o.heard.getD j 0 ∧ y.o.heard.getD j 0 ≤ 1000000; rw [HY.out]; exact HHE.out j) (by show y.o.C.length ≤ 100; rw [HY.out]; exact Nat.zero_le _) (St.pick 1 s5) ?_; rintro z w6 hz s6
       have HZ : Hid (z.o = silentO { freshO x.o with ticks := tk + 1 } x.o.V.a) := hid (by rw [hz]; show silentO { y.o with ticks := tk + 1 } y.o.V.a = _; rw [HY.out]; rfl)
       have HZI : Hid (SilI { freshO x.o with ticks := tk + 1 } z.o x.o.V.a.length) := hid (by rw [HZ.out]; exact silent_SilI HI0.out _)
       clear hz)
    | (refine wpl_storeA (vs := z.cells) rfl (.tmp 1) (.tmp 20) (by rfl) aggRO (by rfl) (by rfl) (RO.len HZI.out.ok.ro) (RO.one _) (St.pick 1 s6) (RO.len (x := y.withT (tk + 1)) HYO.out.ro) ?_; rintro w7 s7))
  obtain ⟨aq, has⟩ : ∃ v, z.o.asked = v := ⟨_, rfl⟩
  obtain ⟨si, hsi⟩ : ∃ v, z.o.since = v := ⟨_, rfl⟩
  have hsa : (0 ≤ si ∧ si ≤ 4) ∧ (aq = -1 ∨ 0 ≤ aq) := by
    obtain ⟨g1, g2, _⟩ := silent_num x.o.V.a { freshO x.o with ticks := tk + 1 }
    rw [← HZ.out, has] at g1
    rw [← HZ.out, hsi] at g2
    rw [g1, g2]
    exact HSA.out
  have HASK := hid has; have HSI := hid hsi
  have hws : IntKind.i64.wrap (si + 1) = si + 1 := IntWalk.i64_in _ (by omega)
  clear has hsi c48 f48 s1 s3 s4 s5 s6
  simp only [Act.put]
  go_cut [23] (fun v wx => v = .bool (decide (0 ≤ aq)) ∧ St W wx (row B 0 z.cells :: z.mem W :: row E 0 zeroRO.cells :: R))
  case first =>
    have c61 := (roC HZI.out.ok.ro s7).2.2.2.2.1
    rw [HASK.out] at c61
    go_wp2_with fail
    go_meet
    case rel => exact ⟨rfl, s7⟩
  case rest =>
    obtain ⟨rfl, s8⟩ := hcut
    clear s7
    go_upto_if 23 with (fail)
    go_cut [30] (fun _ wx => ∃ a : RO, a.o = ask1R z.o ∧ St W wx (row B 0 a.cells :: a.mem W :: row E 0 zeroRO.cells :: R))
    case first =>
      by_cases h0 : 0 ≤ aq
      · have d0 : decide (0 ≤ aq) = true := decide_eq_true h0
        rw [d0]
        have c62 := (roC HZI.out.ok.ro s8).2.2.2.2.2.1
        rw [HSI.out] at c62
        have f62 := roF HZI.out.ok.ro s8 62 (by decide)
        have s9 := roSetS HZI.out.ok.ro s8 (si + 1)
        have c62' : World.cell? _ ⟨B, 62, none⟩ = some (.int .i64 (si + 1)) := (roC (x := z.withS (si + 1)) HZI.out.ok.ro s9).2.2.2.2.2.1
        by_cases h4 : 4 ≤ si + 1
        · have d4 : decide (4 ≤ si + 1) = true := decide_eq_true h4
          have c61 := (roC (x := z.withS (si + 1)) HZI.out.ok.ro s9).2.2.2.2.1
          have f61 := roF (x := z.withS (si + 1)) HZI.out.ok.ro s9 61 (by decide)
          have sA := roSetA (x := z.withS (si + 1)) HZI.out.ok.ro s9 (-1)
          have E1 : Hid (((z.withS (si + 1)).withA (-1)).o = ask1R z.o) := hid (by unfold ask1R; rw [if_pos (by rw [HASK.out]; exact h0), if_pos (by rw [HSI.out]; exact h4), HSI.out]; rfl)
          clear h0 h4
          go_wp2_with fail
          go_meet
          case rel => exact ⟨_, E1.out, sA⟩
        · have d4 : decide (4 ≤ si + 1) = false := decide_eq_false h4
          have E1 : Hid ((z.withS (si + 1)).o = ask1R z.o) := hid (by unfold ask1R; rw [if_pos (by rw [HASK.out]; exact h0), if_neg (by rw [HSI.out]; exact h4), HSI.out]; rfl)
          clear h0 h4
          go_wp2_with fail
          go_meet
          case rel => exact ⟨_, E1.out, s9⟩
      · have d0 : decide (0 ≤ aq) = false := decide_eq_false h0
        rw [d0]
        have E1 : Hid (z.o = ask1R z.o) := hid (by unfold ask1R; rw [if_neg (by rw [HASK.out]; exact h0)])
        clear h0
        go_wp2_with fail
        go_meet
        case rel => exact ⟨_, E1.out, s8⟩
    case rest =>
      obtain ⟨a, ha, s9⟩ := hcut
      have HA := hid ha
      have HAO : Hid (OOK a.o) := hid (by
        obtain ⟨g1, _, _, g4, g5, _, _⟩ := ask1_same z.o
        rw [ha]; exact ⟨by rw [g1]; exact HZI.out.ok.v, by rw [g4]; exact HZI.out.ok.cl, by rw [g5]; exact HZI.out.ok.hl, by rw [g4]; exact HZI.out.ok.r⟩)
      have HAL0 : Hid (a.o.L = []) := hid (by rw [ha, (ask1_same z.o).2.1, HZ.out, silent_L]; rfl)
      have HAC : Hid (a.o.C.length ≤ 100) := hid (by rw [ha, (ask1_same z.o).2.2.1]; have g : z.o.C.length ≤ 0 + x.o.V.a.length := HZI.out.c; have h2 := HAL.out; omega)
      have HAT : Hid (a.o.ticks = tk + 1) := hid (by rw [ha, (ask1_same z.o).2.2.2.2.2.2, HZ.out, (silent_num _ _).2.2])
      have HAG : Hid (a.o.cfg = x.o.cfg) := hid (by rw [ha, (ask1_same z.o).2.2.2.1, HZI.out.g]; rfl)
      have HPS : Hid (a.o.V.p.Pairwise (· < ·) ∧ ∀ q ∈ a.o.V.p, nodeB q = true) := hid ⟨HAO.out.v.sp, fun q hq => (HAO.out.v.np q hq).1⟩
      have HAS : Hid (a.o.V.a.Pairwise (· < ·) ∧ ∀ q ∈ a.o.V.a, nodeB q = true) := hid ⟨HAO.out.v.sa, fun q hq => (HAO.out.v.na q hq).1⟩
      clear ha s8
      obtain ⟨np, hnp⟩ : ∃ n, a.o.V.p.length = n := ⟨_, rfl⟩
      have HNP := hid hnp
      have hnpb : np ≤ 4096 := by rw [← hnp]; have := HAO.out.v.np4; omega
      clear hnp
      have lb := (roBits HAO.out.ro s9).2
      go_upto_region 9 with (go_at_call 29; refine list_c s9 HPS.out.1 HPS.out.2 ?_; rw [HNP.out]; rintro ap cp wA sA)
      clear lb
      obtain ⟨a1, ea1⟩ : ∃ v, a.o.asked = v := ⟨_, rfl⟩
      have HA1 := hid ea1
      have hwant : wantR a.o = (decide (a1 < 0) && (!decide (a.o.V.am ≤ (a.o.V.a.length : Int)) && decide (0 < np))) := by unfold wantR; rw [ea1, HNP.out]
      have HWT := hid hwant
      clear ea1 hwant
      go_cut [49] (fun v wx => v = .bool (wantR a.o) ∧ St W wx (OwnS 1 ap np cp (ivs a.o.V.p) :: row B 0 a.cells :: a.mem W :: row E 0 zeroRO.cells :: R))
      case first =>
        have c61 := (roC HAO.out.ro (St.pick 1 sA)).2.2.2.2.1
        rw [HA1.out] at c61
        have lv := roLdV HAO.out.ro (St.pick 1 sA)
        obtain ⟨b1, eb1⟩ : ∃ b, decide (a1 < 0) = b := ⟨_, rfl⟩
        obtain ⟨fl, efl⟩ : ∃ b, decide (a.o.V.am ≤ (a.o.V.a.length : Int)) = b := ⟨_, rfl⟩
        have hw2 := HWT.out
        rw [eb1, efl] at hw2
        have HFL := hid efl
        clear efl
        cases b1 with
        | false =>
          have HW2 := hid hw2
          clear hw2
          go_wp2_with fail
          go_meet
          case rel => exact ⟨by rw [HW2.out]; rfl, sA⟩
        | true =>
          cases fl with
          | true =>
            have HW2 := hid hw2
            clear hw2
            go_wp2_with (go_at_call 125; refine rfull_c sA HAS.out.1 HAS.out.2 ?_; rw [HFL.out]; rintro wB sB)
            go_meet
            case rel => exact ⟨by rw [HW2.out]; rfl, sB⟩
          | false =>
            have HW2 : Hid (wantR a.o = decide (0 < np)) := hid (by rw [hw2]; rfl)
            have hdi : decide ((0 : Int) < (np : Int)) = decide (0 < np) := by by_cases g : 0 < np <;> simp [g]
            obtain ⟨d, ed⟩ : ∃ d, decide (0 < np) = d := ⟨_, rfl⟩
            rw [ed] at hdi
            have HD := hid ed
            clear hw2
            go_wp2_with (go_at_call 125; refine rfull_c sA HAS.out.1 HAS.out.2 ?_; rw [HFL.out]; rintro wB sB)
            go_meet
            case rel => exact ⟨by rw [HW2.out, HD.out], sB⟩
      case rest =>
        obtain ⟨rfl, sC⟩ := hcut
        clear sA
        go_upto_if 49 with (fail)
        obtain ⟨wt, ewt⟩ : ∃ b, wantR a.o = b := ⟨_, rfl⟩
        have HW := hid ewt
        rw [ewt]
        clear ewt
        go_cut [72] (fun _ wx => ∃ b : RO, b.o = (if wt = true then ask2R a.o else a.o) ∧ St W wx (OwnS 1 ap np cp (ivs a.o.V.p) :: row B 0 b.cells :: b.mem W :: row E 0 zeroRO.cells :: R))
        case first =>
          cases wt with
          | false =>
            go_wp2_with fail
            go_meet
            case rel => exact ⟨a, by rw [if_neg Bool.noConfusion], sC⟩
          | true =>
            have hnp0 : a.o.V.p ≠ [] := by
              intro g
              have h1 := HWT.out
              rw [HW.out, ← HNP.out, g] at h1
              simp at h1
            have HX : Hid (∀ (l : List Int) (c d : Int), (if a.o.V.p = [] then c else d) = d ∧ (if a.o.V.p = [] then a.o.D else l) = l) := hid (fun _ _ _ => ⟨if_neg hnp0, if_neg hnp0⟩)
            have hnn : np ≤ 4611686018427387904 := Nat.le_trans hnpb (by decide)
            clear hnp0
            have sM := RO.memO (St.pick 2 sC)
            have c47 := (roC HAO.out.ro (St.pick 1 sC)).2.2.1
            go_wp2_with (go_at_call 128; refine refPick_c (l := a.o.D) (zs := a.o.V.p) sM (fun w s => OwnS.rd (St.pick 3 s)) hnn ?_; rintro a5 c5 qq s5
              <;> (rw [(HX.out (drawL a.o.D a.o.V.p.length) 0 0).2] at s5 ⊢
                   rw [(HX.out [] 0 (pickV a.o.D a.o.V.p)).1]
                   generalize World.drewN _ qq = w5 at s5 ⊢
                   obtain ⟨n5, hn5⟩ : ∃ n, (drawL a.o.D a.o.V.p.length).length = n := ⟨_, rfl⟩
                   rw [hn5] at s5 ⊢
                   clear hn5
                   have d47 := (roC HAO.out.ro (St.pick 5 s5)).2.2.1
                   have f47 := roF HAO.out.ro (St.pick 5 s5) 47 (by decide)
                   have t1 := roSetD HAO.out.ro (St.pick 5 s5) (drawL a.o.D a.o.V.p.length) a5 n5 c5
                   have d61 := (roC (x := a.withD (drawL a.o.D a.o.V.p.length) a5 n5 c5) HAO.out.ro t1).2.2.2.2.1
                   have f61 := roF (x := a.withD (drawL a.o.D a.o.V.p.length) a5 n5 c5) HAO.out.ro t1 61 (by decide)
                   have t2 := roSetA (x := a.withD (drawL a.o.D a.o.V.p.length) a5 n5 c5) HAO.out.ro t1 (pickV a.o.D a.o.V.p)
                   have d62 := (roC (x := (a.withD (drawL a.o.D a.o.V.p.length) a5 n5 c5).withA (pickV a.o.D a.o.V.p)) HAO.out.ro t2).2.2.2.2.2.1
                   have f62 := roF (x := (a.withD (drawL a.o.D a.o.V.p.length) a5 n5 c5).withA (pickV a.o.D a.o.V.p)) HAO.out.ro t2 62 (by decide)
                   have t3 := roSetS (x := (a.withD (drawL a.o.D a.o.V.p.length) a5 n5 c5).withA (pickV a.o.D a.o.V.p)) HAO.out.ro t2 0))
            obtain ⟨g, hg⟩ : ∃ g, pickV a.o.D a.o.V.p = g := ⟨_, rfl⟩
            have HG := hid hg
            obtain ⟨A2, hA2⟩ : ∃ A2, ((a.withD (drawL a.o.D a.o.V.p.length) a5 n5 c5).withA (pickV a.o.D a.o.V.p)).withS 0 = A2 := ⟨_, rfl⟩
            have sE : St W _ ((((a.withD (drawL a.o.D a.o.V.p.length) a5 n5 c5).withA (pickV a.o.D a.o.V.p)).withS 0).mem W :: row B 0 (((a.withD (drawL a.o.D a.o.V.p.length) a5 n5 c5).withA (pickV a.o.D a.o.V.p)).withS 0).cells :: OwnS 1 ap np cp (ivs a.o.V.p) :: row E 0 zeroRO.cells :: R) :=
              RO.memC (x := ((a.withD (drawL a.o.D a.o.V.p.length) a5 n5 c5).withA (pickV a.o.D a.o.V.p)).withS 0) (t3.perm [1, 1, 1, 1])
            have HA2 : Hid (A2.o = { a.o with D := drawL a.o.D a.o.V.p.length, asked := pickV a.o.D a.o.V.p, since := 0 }) := hid (by rw [← hA2]; rfl)
            rw [hA2] at sE
            have HA2O : Hid (OOK A2.o) := hid (by rw [HA2.out]; exact ⟨HAO.out.v, HAO.out.cl, HAO.out.hl, HAO.out.r⟩)
            have HA2L : Hid (A2.o.L.length ≤ 1000) := hid (by rw [HA2.out]; show a.o.L.length ≤ 1000; rw [HAL0.out]; exact Nat.zero_le _)
            clear hA2 t1 t2 t3 d47 f47 d61 f61 d62 f62 s5 sM c47 sC
            rw [hg] at sE ⊢
            clear hg
            obtain ⟨na, hna⟩ : ∃ n, a.o.V.a.length = n := ⟨_, rfl⟩
            have HNA := hid hna
            clear hna
            obtain ⟨hz, ehz⟩ : ∃ h, ((na : Int) == 0) = h := ⟨_, rfl⟩
            have HHZ := hid ehz
            have u := sE.drew
            have lz := roLd HA2O.out.ro (St.pick 1 u)
            have lb := (roBits HA2O.out.ro (St.pick 1 u)).1
            rw [show A2.o.V.a = a.o.V.a from by rw [HA2.out]] at lb
            go_region_law (first
              | (go_simp; go_at_call 29; refine list_c u HAS.out.1 HAS.out.2 ?_; rw [HNA.out]; rintro aa ca w6 s6; have lz2 := roLd HA2O.out.ro (St.pick 2 s6))
              | (go_simp; go_at_call 118; refine rsend_c (x := A2) (p := g) (m := { kindM 3 with high := hz }) HA2O.out.ro HA2L.out (St.pick 1 (kindRb hz (St.pick 1 s6))) ?_; rintro y w7 hy s7
                 have HY := hid hy
                 have HYO : Hid y.ok := hid (by rw [RO.ok, hy]; exact HA2O.out.ro)
                 have rS := run_storeG aggRO (b := B) (o := 0) ((St.pick 2 s7).roomG (RO.len HA2O.out.ro)) (RO.oneG HYO.out)
                 have s8 := (St.pick 2 s7).setAll (vs := y.cells) (by rw [RO.len HYO.out, RO.len HA2O.out.ro])
                 clear hy))
            all_goals
              go_wp2_with fail
              go_meet
              case rel => exact ⟨y, by rw [if_pos trivial, HY.out, HA2.out]; unfold sendO ask2R askM; rw [HG.out, HNA.out, HHZ.out], (St.drop (St.pick 2 s8)).perm [2]⟩
        case rest =>
          obtain ⟨b, hb, sD⟩ := hcut
          have HBT : Hid (b.o = askO z.o) := hid (by
            rw [hb, ← HW.out, HA.out]
            exact ask_is z.o (by rw [HASK.out]; exact hsa.2))
          have HBS : Hid (b.o.V = a.o.V ∧ b.o.cfg = a.o.cfg ∧ b.o.heard = a.o.heard ∧ b.o.ticks = a.o.ticks ∧ b.o.C = a.o.C ∧ b.o.L.length ≤ 1) := hid (by
            rw [hb]
            cases wt with
            | true =>
              rw [if_pos rfl]
              refine ⟨rfl, rfl, rfl, rfl, rfl, ?_⟩
              show (a.o.L ++ [_]).length ≤ 1
              rw [HAL0.out]; exact Nat.le_refl _
            | false => rw [if_neg Bool.noConfusion]; exact ⟨rfl, rfl, rfl, rfl, rfl, by rw [HAL0.out]; exact Nat.zero_le _⟩)
          have HBO : Hid (OOK b.o) := hid (by
            obtain ⟨g1, g2, g3, _⟩ := HBS.out
            exact ⟨by rw [g1]; exact HAO.out.v, by rw [g2]; exact HAO.out.cl, by rw [g3]; exact HAO.out.hl, by rw [g2]; exact HAO.out.r⟩)
          clear hb sC
          obtain ⟨bt, ebt⟩ : ∃ c, b.o.cfg.getD 10 0 = c := ⟨_, rfl⟩
          have hbt := cfg_beat HBO.out
          rw [ebt] at hbt
          have HBT2 := hid ebt
          have c48 := (roC HBO.out.ro (St.pick 1 sD)).2.2.2.1
          rw [show b.o.ticks = tk + 1 from by rw [HBS.out.2.2.2.1, HAT.out]] at c48
          have c10 := roCfg HBO.out.ro (St.pick 1 sD) (i := 10) (by decide)
          rw [ebt] at c10
          clear ebt
          obtain ⟨tk1, etk1⟩ : ∃ t, tk + 1 = t := ⟨_, rfl⟩
          have htk1 : 0 ≤ tk1 ∧ tk1 ≤ 1000001 := by omega
          have HTK1 := hid etk1
          rw [etk1] at c48
          have hne : bt ≠ 0 := by omega
          have htm : tk1.tmod bt = tk1 % bt := Int.tmod_eq_emod_of_nonneg htk1.1
          have hlo : 0 ≤ tk1 % bt := Int.emod_nonneg _ hne
          have hup : tk1 % bt < bt := Int.emod_lt_of_pos _ (by omega)
          have hwm : IntKind.i64.wrap (tk1 % bt) = tk1 % bt := IntWalk.i64_in _ (by omega)
          have hnb : (bt == 0) = false := by simpa using hne
          have lz := roLd HBO.out.ro (St.pick 1 sD)
          clear etk1
          by_cases hz : tk1 % bt = 0
          · have hzb : (tk1 % bt == 0) = true := by simp [hz]
            have HZB := hid hz
            clear hz
            have lb := (roBits HBO.out.ro (St.pick 1 sD)).1
            rw [show b.o.V.a = a.o.V.a from by rw [HBS.out.1]] at lb
            obtain ⟨na, hna⟩ : ∃ n, a.o.V.a.length = n := ⟨_, rfl⟩
            have HNA := hid hna
            have hna11 : na ≤ 11 := by rw [← hna]; have := HAO.out.v.la; have := HAO.out.v.am; omega
            clear hna
            go_wp2_with (go_at_call 29; refine list_c sD HAS.out.1 HAS.out.2 ?_; rw [HNA.out]; rintro aa ca w6 s6)
            clear lb lz c48 c10 sD
            obtain ⟨A, hA⟩ : ∃ A, a.o.V.a = A := ⟨_, rfl⟩
            have HAE := hid hA
            rw [hA] at HAS HNA s6
            clear hA
            go_loopw [8] (fun ii wr => ∃ (i : Nat) (y : RO), i ≤ na ∧ ii = .int .i64 i ∧ Hid (y.o = { b.o with L := b.o.L ++ beatsL (A.take i) }) ∧ St W wr (row B 0 y.cells :: y.mem W :: OwnS 1 aa na ca (ivs A) :: OwnS 1 ap np cp (ivs a.o.V.p) :: row E 0 zeroRO.cells :: R)) (fun ii _ => na - (intOf ii).toNat)
            case atStart => exact ⟨0, b, Nat.zero_le _, rfl, hid (by show b.o = { b.o with L := b.o.L ++ [] }; rw [List.append_nil]), s6.perm [2, 2]⟩
            case round =>
              clear s6
              obtain ⟨i, y, hi, rfl, HY, sr⟩ := hrel
              have HYO : Hid (OOK y.o ∧ y.o.L.length ≤ 100) := hid (by
                rw [HY.out]
                refine ⟨⟨HBO.out.v, HBO.out.cl, HBO.out.hl, HBO.out.r⟩, ?_⟩
                show (b.o.L ++ beatsL (A.take i)).length ≤ 100
                rw [List.length_append]
                have h1 := HBS.out.2.2.2.2.2
                have h2 : (beatsL (A.take i)).length ≤ i := by unfold beatsL; rw [List.length_map]; exact List.length_take_le _ _
                omega)
              by_cases hlt : i < na
              · have hi2 : (i : Int) < (na : Int) := by omega
                have rd := OwnS.rd (St.pick 2 sr.drew)
                obtain ⟨g3, o3, rfl⟩ := rd.addr (by omega)
                have hiA : i < A.length := by rw [HNA.out]; exact hlt
                have ci := rd.at (ivs_get hiA)
                have hsn := beats_snoc hiA
                obtain ⟨t, ht⟩ : ∃ t, A[i] = t := ⟨_, rfl⟩
                rw [ht] at ci hsn
                have HSN := hid hsn
                clear ht rd hiA hsn
                have u := sr.drew
                have lz := roLd HYO.out.1.ro u
                go_wp2_with fail
                go_region_law (go_simp; go_at_call 118; refine rsend_c (x := y) (p := t) (m := kindM 9) HYO.out.1.ro (Nat.le_trans HYO.out.2 (by decide)) (St.pick 1 (kindR 9 (St.pick 1 u))) ?_; rintro v w7 hv s7; have HV := hid hv; have HVO : Hid v.ok := hid (by rw [RO.ok, hv]; exact HYO.out.1.ro); have rS := run_storeG aggRO (b := B) (o := 0) ((St.pick 1 s7).roomG (RO.len HYO.out.1.ro)) (RO.oneG HVO.out); have s8 := (St.pick 1 s7).setAll (vs := v.cells) (by rw [RO.len HVO.out, RO.len HYO.out.1.ro]); clear hv)
                all_goals
                  go_wp2_with fail
                  go_roundw
                  case rel => exact ⟨i + 1, v, by omega, by go_num, hid (by rw [HV.out, HSN.out, ← List.append_assoc]; unfold sendO; rw [HY.out]), s8⟩
                  case measure => simp [intOf]; omega
              · have hie : na = i := by omega
                subst hie
                rw [List.take_of_length_le (by rw [HNA.out]; exact Nat.le_refl _)] at HY
                have HBA : Hid (b.o.V.a = A) := hid (by rw [HBS.out.1, HAE.out])
                by_cases hA0 : A = []
                · have hn0 : na = 0 := by rw [← HNA.out, hA0]; rfl
                  have hnz : ((na : Int) == 0) = true := by rw [hn0]; rfl
                  have HA0 := hid hA0
                  clear hA0 hn0
                  have lz := roLd HYO.out.1.ro sr
                  have rS := run_storeG aggRO (b := E) (o := 0) ((St.pick 4 sr).roomG zeroRO_len) (RO.oneG HYO.out.1.ro)
                  have s9 := (St.pick 4 sr).setAll (vs := y.cells) (by rw [RO.len HYO.out.1.ro, zeroRO_len])
                  go_wp2_with fail
                  have hL := run_loadA aggRO (RO.len HYO.out.1.ro) s9.rowAll
                  exact bodyPost_ret (v := .agg y.cells.toArray) (by simp [results, Tryz.results75, asAddr, hL]) rfl (HK.out y none 0 0 _ (by
                  rw [HY.out]
                  have e1 : (freshO x.o).ticks + 1 = tk1 := by show x.o.ticks + 1 = tk1; rw [HTK.out, HTK1.out]
                  have e2 : tick1 (freshO x.o) = b.o := by
                    rw [HBT.out, HZ.out]; unfold tick1
                    rw [show (freshO x.o).ticks + 1 = tk + 1 from by rw [e1, HTK1.out]]
                    rfl
                  unfold tickR
                  rw [e1, show (freshO x.o).cfg.getD 10 0 = bt from by rw [← HBT2.out, HBS.out.2.1, HAG.out]; rfl, if_pos HZB.out, e2]
                  unfold beatO
                  have ea : b.o.V.a = A := by rw [HBS.out.1, HAE.out]
                  rw [ea, if_pos HA0.out, HA0.out]; show { b.o with L := b.o.L ++ [] } = b.o; rw [List.append_nil]) (St.drop (St.pick 1 (St.drop (St.pick 1 (s9.dropN 2))))))
                · have hn0 : na ≠ 0 := by intro g; rw [← HNA.out] at g; exact hA0 (List.eq_nil_of_length_eq_zero g)
                  have hnz : ((na : Int) == 0) = false := by simpa using hn0
                  have HX : Hid (∀ (l : List Int) (c d : Int), (if A = [] then c else d) = d ∧ (if A = [] then y.o.D else l) = l) := hid (fun _ _ _ => ⟨if_neg hA0, if_neg hA0⟩)
                  have HA0 := hid hA0
                  clear hA0 hn0
                  have sM := RO.memO (St.pick 1 sr)
                  have c47 := (roC HYO.out.1.ro sr).2.2.1
                  obtain ⟨c9, e9⟩ : ∃ c, y.o.cfg.getD 9 0 = c := ⟨_, rfl⟩
                  obtain ⟨c7, e7⟩ : ∃ c, y.o.cfg.getD 7 0 = c := ⟨_, rfl⟩
                  have H9 := hid e9; have H7 := hid e7
                  clear e9 e7
                  have hnn : na ≤ 4611686018427387904 := by omega
                  go_wp2_with (first
                    | (go_at_call 128; refine refPick_c (l := y.o.D) (zs := A) sM (fun w s => OwnS.rd (St.pick 4 s)) hnn ?_; rintro a5 c5 qq s5
                       rw [(HX.out (drawL y.o.D A.length) 0 0).2] at s5 ⊢
                       rw [(HX.out [] 0 (pickV y.o.D A)).1]
                       generalize World.drewN _ qq = w5 at s5 ⊢
                       obtain ⟨D1, hD1⟩ : ∃ D1, drawL y.o.D A.length = D1 := ⟨_, rfl⟩
                       rw [hD1] at s5 ⊢
                       have HD1 := hid hD1
                       obtain ⟨n5, hn5⟩ : ∃ n, D1.length = n := ⟨_, rfl⟩
                       rw [hn5] at s5 ⊢
                       clear hn5 hD1
                       have d9 := roCfg HYO.out.1.ro (St.pick 4 s5) (i := 9) (by decide)
                       rw [H9.out] at d9)
                    | (go_at_call 129; refine refSome_c (k := c9) (St.pick 1 (RdH.own (St.pick 6 s5))) (by omega) ?_; rintro a1' c1 a2 c2 wA sA
                       obtain ⟨SD, hSD⟩ : ∃ SD, (someF c9.toNat D1 a.o.V.p).1 = SD := ⟨_, rfl⟩
                       obtain ⟨SP, hSP⟩ : ∃ SP, (someF c9.toNat D1 a.o.V.p).2.1 = SP := ⟨_, rfl⟩
                       rw [hSD, hSP] at sA ⊢
                       have HSD := hid hSD; have HSP := hid hSP
                       obtain ⟨n1', hn1'⟩ : ∃ n, SD.length = n := ⟨_, rfl⟩
                       obtain ⟨n2', hn2'⟩ : ∃ n, SP.length = n := ⟨_, rfl⟩
                       rw [hn1', hn2'] at sA ⊢
                       clear hSD hSP hn1' hn2'
                       have d47 := (roC HYO.out.1.ro (St.pick 5 sA)).2.2.1
                       have f47 := roF HYO.out.1.ro (St.pick 5 sA) 47 (by decide)
                       have t1 := roSetD HYO.out.1.ro (St.pick 5 sA) SD a1' n1' c1
                       have lz := roLd (x := y.withD SD a1' n1' c1) HYO.out.1.ro t1
                       have d20 : World.cell? _ ⟨B, 20, none⟩ = some (.int .i64 y.o.V.self) := (roC (x := y.withD SD a1' n1' c1) HYO.out.1.ro t1).2.1
                       have d7 : World.cell? _ ⟨B, 7, none⟩ = some (.int .i64 (y.o.cfg.getD 7 0)) := roCfg (x := y.withD SD a1' n1' c1) HYO.out.1.ro t1 (i := 7) (by decide)
                       rw [H7.out] at d7
                       have sT : St W _ ((y.withD SD a1' n1' c1).mem W :: row B 0 (y.withD SD a1' n1' c1).cells :: OwnS 1 a2 n2' c2 (ivs SP) :: OwnS 1 aa na ca (ivs A) :: row E 0 zeroRO.cells :: R) := RO.memC (x := y.withD SD a1' n1' c1) (t1.perm [1, 2, 2, 2])
                       have HEQ : Hid ((shufB y.o.V.self c7 a2 n2' c2).cells = (shuffleM y.o a2 n2' c2 SP).cells) := hid (by rw [← H7.out]; rfl))
                    | (go_at_call 118; rw [HEQ.out]; refine rsend_c (x := y.withD SD a1' n1' c1) (p := pickV y.o.D A) (m := shuffleM y.o a2 n2' c2 SP) HYO.out.1.ro (Nat.le_trans HYO.out.2 (by decide)) (St.pick 1 (RdH.own (St.pick 2 sT))) ?_; rintro v w7 hv s7
                       have HV := hid hv
                       have HVO : Hid v.ok := hid (by rw [RO.ok, hv]; exact HYO.out.1.ro)
                       clear hv)
                    | (refine wpl_storeA (vs := v.cells) rfl (.tmp 2) (.tmp 131) (by rfl) aggRO (by rfl) (by rfl) (RO.len HVO.out) (RO.one _) (St.pick 3 s7) zeroRO_len ?_; rintro w9 s9))
                  have hL := run_loadA aggRO (RO.len HVO.out) s9.rowAll
                  exact bodyPost_ret (v := .agg v.cells.toArray) (by simp [results, Tryz.results75, asAddr, hL, Act.put]) rfl (HK.out v a2 n2' c2 _ (by
                  rw [HV.out]
                  have e1 : (freshO x.o).ticks + 1 = tk1 := by show x.o.ticks + 1 = tk1; rw [HTK.out, HTK1.out]
                  have e2 : tick1 (freshO x.o) = b.o := by
                    rw [HBT.out, HZ.out]; unfold tick1
                    rw [show (freshO x.o).ticks + 1 = tk + 1 from by rw [e1, HTK1.out]]
                    rfl
                  unfold tickR
                  rw [e1, show (freshO x.o).cfg.getD 10 0 = bt from by rw [← HBT2.out, HBS.out.2.1, HAG.out]; rfl, if_pos HZB.out, e2]
                  unfold beatO
                  have ea : b.o.V.a = A := by rw [HBS.out.1, HAE.out]
                  rw [ea, if_neg HA0.out]
                  show sendO { y.o with D := SD } _ = _
                  rw [← HSD.out, ← HSP.out, ← HD1.out, ← H9.out, HY.out, ← HBS.out.1]
                  rfl) (St.drop (St.pick 1 (St.drop (St.pick 1 s9.drop)))))
          · have hzb : (tk1 % bt == 0) = false := by simp [hz]
            have HZB := hid hz
            clear hz
            have rS := run_storeG aggRO (b := E) (o := 0) ((St.pick 3 sD).roomG zeroRO_len) (RO.oneG HBO.out.ro)
            have s9 := (St.pick 3 sD).setAll (vs := b.cells) (by rw [RO.len HBO.out.ro, zeroRO_len])
            go_wp2_with fail
            have hL := run_loadA aggRO (RO.len HBO.out.ro) s9.rowAll
            exact bodyPost_ret (v := .agg b.cells.toArray) (by simp [results, Tryz.results75, asAddr, hL]) rfl (HK.out b none 0 0 _ (by
              rw [HBT.out, HZ.out]
              have e1 : (freshO x.o).ticks + 1 = tk1 := by show x.o.ticks + 1 = tk1; rw [HTK.out, HTK1.out]
              unfold tickR
              rw [e1, show (freshO x.o).cfg.getD 10 0 = bt from by rw [← HBT2.out, HBS.out.2.1, HAG.out]; rfl, if_neg HZB.out]
              unfold tick1
              rw [show (freshO x.o).ticks + 1 = tk + 1 from by rw [e1, HTK1.out]]
              rfl) ((s9.drop.perm [2]) |> fun t => (St.drop (St.pick 1 (St.drop (St.pick 1 t)))))
              )
end

end Go.Proofs.YtbpdchaeakihkaaGreat
