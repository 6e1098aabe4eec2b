/- Gras: several texts, joined. Graves: duties; both of two certificates; is a grave later? -/
import Derived.Test.YtojfjbbggpfijaaGreatDoorClks
import Derived.Test.YtojfjbbggpfijaaGreatDoorLibR
import Derived.Test.YtojfjbbggpfijaaGreatDoorRepA
import Derived.Deep.DeepCutAuto
import Derived.Deep.RegionHeld3
import Derived.Laws.StructEq
import Derived.Lib.Strings
namespace Go.Proofs.YtojfjbbggpfijaaGreatDoor
open Go.RowKit Go.Qd

theorem bit_int {k site : Int} (_h0 : 0 ≤ site) (hk : 0 ≤ k) (hk2 : k < 65536) : (bits .and .i64 (k / 2 ^ site.toNat) 1 == 1) = k.toNat.testBit site.toNat := by
  obtain ⟨n, rfl⟩ := Int.eq_ofNat_of_zero_le hk
  have e : (n : Int) / 2 ^ site.toNat = ((n / 2 ^ site.toNat : Nat) : Int) := by simp
  have hl : n / 2 ^ site.toNat ≤ n := Nat.div_le_self _ _
  rw [e, show (1 : Int) = ((1 : Nat) : Int) from rfl, and63 (by omega) (by omega), Int.toNat_natCast, Nat.testBit_eq_decide_div_mod_eq, Nat.and_one_is_mod]
  by_cases h : n / 2 ^ site.toNat % 2 = 1
  · rw [h]; rfl
  · rw [decide_eq_false h, show n / 2 ^ site.toNat % 2 = 0 by omega]; rfl

section
variable {W w : World} {R : List HP} {post : Ending → World → Prop}

set_option maxRecDepth 100000 in
set_option maxHeartbeats 1000000 in
theorem duty_no {e : EnV} {site : Int} (hd : e.dead = false) (st : St W w R) (K : ∀ w', St W w' R → post (.returned (.bool (dutyB e site))) w') :
    Calls Tryz.prog 167 #[.agg e.cells.toArray, .int .i64 site] w post := by
  have HK : Hid (∀ w', St W w' R → post (.returned (.bool false)) w') := hid (by unfold dutyB at K; rwa [hd] at K)
  clear K
  go_enter Tryz.func167, Tryz.ntmps167
  go_wp2_with (refine wpl_boxA (vs := e.cells) rfl (.tmp 0) rfl rfl st ?_; rintro T w1 s1; obtain ⟨a0, a1, a2⟩ := enParts s1; rw [hd] at a0; obtain ⟨c0, c1, c2, c3, c4⟩ := a0)
  exact HK.out _ s1.drop

set_option maxRecDepth 100000 in
set_option maxHeartbeats 1000000 in
theorem duty_dead {e : EnV} {site : Int} (hd : e.dead = true) (h0 : 0 ≤ site) (h1 : site < 12) (hk : 0 ≤ e.kp) (hk2 : e.kp < 65536) (st : St W w R) (K : ∀ w', St W w' R → post (.returned (.bool (dutyB e site))) w') :
    Calls Tryz.prog 167 #[.agg e.cells.toArray, .int .i64 site] w post := by
  have HK : Hid (∀ w', St W w' R → post (.returned (.bool (e.kp.toNat.testBit site.toNat))) w') := hid (by
    unfold dutyB at K; rw [hd, decide_eq_true h0, decide_eq_true h1] at K; exact K)
  clear K
  have g0 : decide (0 ≤ site) = true := decide_eq_true h0
  have g1 : decide (site < 12) = true := decide_eq_true h1
  go_enter Tryz.func167, Tryz.ntmps167
  go_wp2_with (refine wpl_boxA (vs := e.cells) rfl (.tmp 0) rfl rfl st ?_; rintro T w1 s1; obtain ⟨a0, a1, a2⟩ := enParts s1; rw [hd] at a0; obtain ⟨c0, c1, c2, c3, c4⟩ := a0)
  have := HK.out _ s1.drop
  rw [← bit_int h0 hk hk2] at this
  exact this
theorem duty_c {e : EnV} {site : Int} (h0 : 0 ≤ site) (h1 : site < 12) (hc : checkE e = 0) (st : St W w R) (K : ∀ w', St W w' R → post (.returned (.bool (dutyB e site))) w') :
    Calls Tryz.prog 167 #[.agg e.cells.toArray, .int .i64 site] w post := by
  cases hd : e.dead with
  | false => exact duty_no hd st K
  | true =>
    have hk := (checkE_ok hc).2.2.2.2.2.2.2 hd
    have hk2 : 0 ≤ e.kp ∧ e.kp < 65536 := by
      have := hk.1
      simp only [keptB, Bool.and_eq_true, decide_eq_true_eq] at this
      omega
    exact duty_dead hd h0 h1 hk2.1 hk2.2 st K
end
end Go.Proofs.YtojfjbbggpfijaaGreatDoor

/- Graves: is a key's grave later? Printed by mkGraB.py. -/
namespace Go.Proofs.YtojfjbbggpfijaaGreatDoor
open Go.RowKit Go.Qd

section
attribute [local go_sem ↓] execOp_ldAny execOp_stE
variable {W w : World} {R : List HP} {post : Ending → World → Prop} {g gp : Nat} {site t2 : Int} {l : List KE}

/-- The graves' struct, as loads. -/
theorem graLd (s : St W w (row g 0 [ptrV gp, .int .i64 site, .int .i64 t2] :: R)) : (loadG 110 (.pointer (some ⟨g, 0, none⟩))).run Tryz.prog w = .ok (.pointer (some ⟨gp, 0, none⟩)) w ∧
    (loadG 3 (.pointer (some ⟨g, 1, none⟩))).run Tryz.prog w = .ok (.int .i64 site) w ∧ (loadG 3 (.pointer (some ⟨g, 2, none⟩))).run Tryz.prog w = .ok (.int .i64 t2) w := by
  have f : ∀ i v, [ptrV gp, .int .i64 site, .int .i64 t2][i]? = some v → w.cell? ⟨g, i, none⟩ = some v := fun i v hv => by have := s.rowCell hv; rwa [Nat.zero_add] at this
  exact ⟨run_ldP (by kernel_rfl) (f 0 _ rfl), run_ldP (by kernel_rfl) (f 1 _ rfl), run_ldP (by kernel_rfl) (f 2 _ rfl)⟩

set_option maxRecDepth 100000 in
set_option maxHeartbeats 4000000 in
theorem over_no {e : EnV} (hs : TSrt l) (hn : l.length ≤ 4096) (hb : thas l e.key = false) (st : St W w (row g 0 [ptrV gp, .int .i64 site, .int .i64 t2] :: TabE gp 0 4096 l :: R))
    (K : ∀ w', St W w' (row g 0 [ptrV gp, .int .i64 site, .int .i64 t2] :: TabE gp 0 4096 l :: R) → post (.returned (.bool false)) w') :
    Calls Tryz.prog 141 #[.pointer (some ⟨g, 0, none⟩), .agg e.cells.toArray] w post := by
  have HK := hid K; clear K
  obtain ⟨x, hx⟩ : ∃ x, tget l e.key = x := ⟨_, rfl⟩
  have HK2 : Hid (∀ w', St W w' (row g 0 [ptrV gp, .int .i64 site, .int .i64 t2] :: TabE gp 0 4096 l :: R) → post (.returned (.bool false)) w') := hid (by first | (rw [← hx]; exact HK.out) | exact HK.out)
  have HS := hid hs; have HL := hid hn; have HB := hid hb; have HE := hid hx
  clear hs hn hb hx HK
  go_enter Tryz.func141, Tryz.ntmps141
  go_wp2_with (refine wpl_boxA (vs := e.cells) rfl (.tmp 1) rfl rfl st ?_; rintro T w1 s1)
  have s2 : St W w1 (row g 0 [ptrV gp, .int .i64 site, .int .i64 t2] :: TabE gp 0 4096 l :: row T 0 e.cells :: R) := s1.perm [1, 1]
  go_cut [5, 6] (fun p v wx => ∃ U, p = .pointer (some ⟨U, 0, none⟩) ∧ v = .bool false ∧ St W wx (row g 0 [ptrV gp, .int .i64 site, .int .i64 t2] :: TabE gp 0 4096 l :: row U 0 x.cells :: row T 0 e.cells :: R))
  case first =>
    have u : St W w1.drew (row g 0 [ptrV gp, .int .i64 site, .int .i64 t2] :: TabE gp 0 4096 l :: row T 0 e.cells :: R) := s2.drew
    have gA := And.intro (graLd u).1 (enL (St.pick 2 u)).1
    have u2 := (s2.alloc EnV.zero.cells.toArray 67).drew
    have gB := And.intro (graLd (St.pick 1 u2)).1 (enL (St.pick 3 u2)).1
    have gz := zero_en
    have hone : oneG x.cells 9 := ⟨rfl, env_one _⟩
    go_region_held3 (fun w' => (loadG 110 (.pointer (some ⟨g, 0, none⟩))).run Tryz.prog w' = .ok (.pointer (some ⟨gp, 0, none⟩)) w' ∧ (loadG 9 (.pointer (some ⟨T, 0, none⟩))).run Tryz.prog w' = .ok (.string e.key) w')
      (first
        | with_reducible exact gE
        | with_reducible exact gD
        | with_reducible exact gC
        | with_reducible exact gB
        | with_reducible exact gA)
      (first
        | (go_at_call 44; first
            | (refine getE_c HS.out HL.out (St.pick 1 u) ?_; rintro w5 t5; rw [HB.out, HE.out]; have s5 : St W w5 (row g 0 [ptrV gp, .int .i64 site, .int .i64 t2] :: TabE gp 0 4096 l :: row T 0 e.cells :: R) := St.pick 1 t5; have gC := And.intro (graLd s5).1 (enL (St.pick 2 s5)).1; have u5 := s5.alloc EnV.zero.cells.toArray 67; have gD := And.intro (graLd (St.pick 1 u5)).1 (enL (St.pick 3 u5)).1; have rB := run_storeG agg_en (b := w5.heap.size) (o := 0) (u5.roomG rfl) hone; have u6 := u5.setAll (vs := x.cells) rfl; have gE := And.intro (graLd (St.pick 1 u6)).1 (enL (St.pick 3 u6)).1)
            | (refine getE_c HS.out HL.out (St.pick 2 u2) ?_; rintro w5 t5; rw [HB.out, HE.out]; have s5 : St W w5 (row w1.heap.size 0 EnV.zero.cells :: row g 0 [ptrV gp, .int .i64 site, .int .i64 t2] :: TabE gp 0 4096 l :: row T 0 e.cells :: R) := t5.perm [1, 1]; have gC := And.intro (graLd (St.pick 1 s5)).1 (enL (St.pick 3 s5)).1; have rB := run_storeG agg_en (b := w1.heap.size) (o := 0) (s5.roomG rfl) hone; have u6 := s5.setAll (vs := x.cells) rfl; have gE := And.intro (graLd (St.pick 1 u6)).1 (enL (St.pick 3 u6)).1)))
    all_goals
      go_wp2_with fail
      go_meet
      case rel => exact ⟨_, rfl, rfl, u6.perm [1, 1]⟩
  case rest =>
  obtain ⟨U, rfl, rfl, s6⟩ := hcut
  go_wp2_with fail
  exact HK2.out _ ((s6.perm [2, 2]).dropN 2)

set_option maxRecDepth 100000 in
set_option maxHeartbeats 4000000 in
theorem over_yes {e : EnV} (hs : TSrt l) (hn : l.length ≤ 4096) (hb : thas l e.key = true) (st : St W w (row g 0 [ptrV gp, .int .i64 site, .int .i64 t2] :: TabE gp 0 4096 l :: R))
    (K : ∀ w', St W w' (row g 0 [ptrV gp, .int .i64 site, .int .i64 t2] :: TabE gp 0 4096 l :: R) → post (.returned (.bool (decide (0 < cmpS (tget l e.key).sc (tget l e.key).ss e.sc e.ss)))) w') :
    Calls Tryz.prog 141 #[.pointer (some ⟨g, 0, none⟩), .agg e.cells.toArray] w post := by
  have HK := hid K; clear K
  obtain ⟨x, hx⟩ : ∃ x, tget l e.key = x := ⟨_, rfl⟩
  have HK2 : Hid (∀ w', St W w' (row g 0 [ptrV gp, .int .i64 site, .int .i64 t2] :: TabE gp 0 4096 l :: R) → post (.returned (.bool (decide (0 < cmpS (x).sc (x).ss e.sc e.ss)))) w') := hid (by first | (rw [← hx]; exact HK.out) | exact HK.out)
  have HS := hid hs; have HL := hid hn; have HB := hid hb; have HE := hid hx
  clear hs hn hb hx HK
  go_enter Tryz.func141, Tryz.ntmps141
  go_wp2_with (refine wpl_boxA (vs := e.cells) rfl (.tmp 1) rfl rfl st ?_; rintro T w1 s1)
  have s2 : St W w1 (row g 0 [ptrV gp, .int .i64 site, .int .i64 t2] :: TabE gp 0 4096 l :: row T 0 e.cells :: R) := s1.perm [1, 1]
  go_cut [5, 6] (fun p v wx => ∃ U, p = .pointer (some ⟨U, 0, none⟩) ∧ v = .bool true ∧ St W wx (row g 0 [ptrV gp, .int .i64 site, .int .i64 t2] :: TabE gp 0 4096 l :: row U 0 x.cells :: row T 0 e.cells :: R))
  case first =>
    have u : St W w1.drew (row g 0 [ptrV gp, .int .i64 site, .int .i64 t2] :: TabE gp 0 4096 l :: row T 0 e.cells :: R) := s2.drew
    have gA := And.intro (graLd u).1 (enL (St.pick 2 u)).1
    have u2 := (s2.alloc EnV.zero.cells.toArray 67).drew
    have gB := And.intro (graLd (St.pick 1 u2)).1 (enL (St.pick 3 u2)).1
    have gz := zero_en
    have hone : oneG x.cells 9 := ⟨rfl, env_one _⟩
    go_region_held3 (fun w' => (loadG 110 (.pointer (some ⟨g, 0, none⟩))).run Tryz.prog w' = .ok (.pointer (some ⟨gp, 0, none⟩)) w' ∧ (loadG 9 (.pointer (some ⟨T, 0, none⟩))).run Tryz.prog w' = .ok (.string e.key) w')
      (first
        | with_reducible exact gE
        | with_reducible exact gD
        | with_reducible exact gC
        | with_reducible exact gB
        | with_reducible exact gA)
      (first
        | (go_at_call 44; first
            | (refine getE_c HS.out HL.out (St.pick 1 u) ?_; rintro w5 t5; rw [HB.out, HE.out]; have s5 : St W w5 (row g 0 [ptrV gp, .int .i64 site, .int .i64 t2] :: TabE gp 0 4096 l :: row T 0 e.cells :: R) := St.pick 1 t5; have gC := And.intro (graLd s5).1 (enL (St.pick 2 s5)).1; have u5 := s5.alloc EnV.zero.cells.toArray 67; have gD := And.intro (graLd (St.pick 1 u5)).1 (enL (St.pick 3 u5)).1; have rB := run_storeG agg_en (b := w5.heap.size) (o := 0) (u5.roomG rfl) hone; have u6 := u5.setAll (vs := x.cells) rfl; have gE := And.intro (graLd (St.pick 1 u6)).1 (enL (St.pick 3 u6)).1)
            | (refine getE_c HS.out HL.out (St.pick 2 u2) ?_; rintro w5 t5; rw [HB.out, HE.out]; have s5 : St W w5 (row w1.heap.size 0 EnV.zero.cells :: row g 0 [ptrV gp, .int .i64 site, .int .i64 t2] :: TabE gp 0 4096 l :: row T 0 e.cells :: R) := t5.perm [1, 1]; have gC := And.intro (graLd (St.pick 1 s5)).1 (enL (St.pick 3 s5)).1; have rB := run_storeG agg_en (b := w1.heap.size) (o := 0) (s5.roomG rfl) hone; have u6 := s5.setAll (vs := x.cells) rfl; have gE := And.intro (graLd (St.pick 1 u6)).1 (enL (St.pick 3 u6)).1)))
    all_goals
      go_wp2_with fail
      go_meet
      case rel => exact ⟨_, rfl, rfl, u6.perm [1, 1]⟩
  case rest =>
  obtain ⟨U, rfl, rfl, s6⟩ := hcut
  obtain ⟨y, hy⟩ : ∃ y, cmpS x.sc x.ss e.sc e.ss = y := ⟨_, rfl⟩
  have HY := hid hy
  have HK3 := HK2.out
  rw [hy] at HK3
  have HK4 := hid HK3
  clear HK3 hy HK2
  have aX := (enL (St.pick 2 s6)).2.2.2.1
  have aE := (enL (St.pick 3 s6)).2.2.2.1
  go_wp2_with (go_at_call 100; refine cmpS_c s6 ?_; rintro w7 s7; rw [HY.out])
  exact HK4.out _ ((s7.perm [2, 2]).dropN 2)

/-- Is a key's grave later than an entry? -/
theorem over_c {e : EnV} (hs : TSrt l) (hn : l.length ≤ 4096) (st : St W w (row g 0 [ptrV gp, .int .i64 site, .int .i64 t2] :: TabE gp 0 4096 l :: R))
    (K : ∀ w', St W w' (row g 0 [ptrV gp, .int .i64 site, .int .i64 t2] :: TabE gp 0 4096 l :: R) → post (.returned (.bool (thas l e.key && decide (0 < cmpS (tget l e.key).sc (tget l e.key).ss e.sc e.ss)))) w') :
    Calls Tryz.prog 141 #[.pointer (some ⟨g, 0, none⟩), .agg e.cells.toArray] w post := by
  cases hb : thas l e.key with
  | false => exact over_no hs hn hb st (by rw [hb] at K; exact K)
  | true => exact over_yes hs hn hb st (by rw [hb] at K; exact K)
end
end Go.Proofs.YtojfjbbggpfijaaGreatDoor

/- Graves: the later of two stamps; both of two certificates. -/
namespace Go.Proofs.YtojfjbbggpfijaaGreatDoor
open Go.RowKit Go.Qd

section
variable {P : Program} {W w : World} {R : List HP} {t : TypeId} {n b o : Nat} {vs us : List Value} {ops : Array Oper} {rest : List Oper} {q : Oper} {A : Act} {Q : Exit → Act → World → Prop}
/-- A store into a part of a row. -/
theorem wpl_storeP (hgd : q.guard = none) (x y : Operand) (p : Nat) (hop : q.op = Op.store t x y) (T : AggT P t n) (hx : A.eval x = .pointer (some ⟨b, o + p, none⟩)) (hy : A.eval y = .agg vs.toArray) (hl : vs.length = n) (h1 : ∀ u ∈ vs, u.oneCell' = true)
    (s : St W w (row b o us :: R)) (hp : p + n ≤ us.length) (hK : ∀ w', St W w' (row b o (splice us p vs) :: R) → wpList P ops Q rest (A.put q.dst undef) w') : wpList P ops Q (q :: rest) A w := by
  refine wpList_plain hgd fun K hK' => ?_
  obtain ⟨h2, s2⟩ := run_storeA T hl h1 s (p := p) (by omega)
  unfold Oper.wp
  have h2' : (storeVar t ⟨b, o + p, none⟩ (.agg vs.toArray)).run P w = .ok () (w.setCells b (o + p) vs) := h2
  simp [execOp, hop, hx, hy, Instr.storeAt, Instr.sureAddr, h2', Result.andThen]
  exact hK' _ _ (hK _ s2)
end

/-- The later one of two stamps, as slices.MaxFunc gives it. -/
def laterS (a b c d : Int) : List Value := if laterB c d a b = true then [.int .i64 c, .int .i64 d] else [.int .i64 a, .int .i64 b]
theorem laterS_eq (a b c d : Int) : laterS a b c d = [.int .i64 (if laterB c d a b = true then c else a), .int .i64 (if laterB c d a b = true then d else b)] := by unfold laterS; split <;> rfl

def mxS (i : Nat) (a b c d : Int) : List Value := if i = 1 then [.int .i64 a, .int .i64 b] else laterS a b c d

def bsl2G (t : TypeId) (x y : Value) : Sem Value := Instr.buildSlice t 2 #[(0, x), (1, y)]
theorem execOp_bslS (ρ : Operand → Value) (dst : Option Tmp) (a c : Operand) (ty : TypeId) (pos : String) (after : Array Edge) (guard : Option (Nat × Bool)) :
    execOp ρ { dst, op := .buildSlice 343 2 #[(0, a), (1, c)], type := ty, pos, after, guard } = (do pure (.value (← bsl2G 343 (ρ a) (ρ c)))) := by simp [execOp, bsl2G]
theorem run_bslS (a b c d : Int) (w : World) : (bsl2G 343 (.agg [Value.int .i64 a, .int .i64 b].toArray) (.agg [Value.int .i64 c, .int .i64 d].toArray)).run Tryz.prog w =
    .ok (.slice (some ⟨w.heap.size, 0, none⟩) 2 2) (w.alloc (.cells [Value.int .i64 a, .int .i64 b, .int .i64 c, .int .i64 d].toArray 57)) := by kernel_rfl
theorem zero_st (w : World) : (zeroValue 57).run Tryz.prog w = .ok (.agg [Value.int .i64 0, .int .i64 0].toArray) w := by kernel_rfl

section
attribute [local go_sem ↓] execOp_ldAny execOp_bslS
variable {W w : World} {R : List HP} {post : Ending → World → Prop}

theorem twoLd {B : Nat} {a b c d : Int} (s : St W w (row B 0 [.int .i64 a, .int .i64 b, .int .i64 c, .int .i64 d] :: R)) :
    (loadG 57 (.pointer (some ⟨B, 0, none⟩))).run Tryz.prog w = .ok (.agg [Value.int .i64 a, .int .i64 b].toArray) w ∧ (loadG 57 (.pointer (some ⟨B, 2, none⟩))).run Tryz.prog w = .ok (.agg [Value.int .i64 c, .int .i64 d].toArray) w := by
  refine ⟨run_loadG agg_st rfl ?_, run_loadG agg_st rfl ?_⟩
  · have := St.rowPart s 0 (xs := [Value.int .i64 a, .int .i64 b]) (ys := [.int .i64 c, .int .i64 d]) rfl
    rwa [Nat.zero_add] at this
  · have := St.rowPart s 2 (xs := [Value.int .i64 c, .int .i64 d]) (ys := []) rfl
    rwa [Nat.zero_add] at this

theorem st_one (a b : Int) : ∀ u ∈ [Value.int .i64 a, .int .i64 b], u.oneCell' = true := by
  intro u hu; simp only [List.mem_cons, List.not_mem_nil, or_false] at hu
  rcases hu with rfl | rfl <;> rfl

set_option maxRecDepth 100000 in
set_option maxHeartbeats 2000000 in
theorem maxS_c {B : Nat} {a b c d : Int} (st : St W w (row B 0 [.int .i64 a, .int .i64 b, .int .i64 c, .int .i64 d] :: R))
    (K : ∀ w', St W w' (row B 0 [.int .i64 a, .int .i64 b, .int .i64 c, .int .i64 d] :: R) → post (.returned (.agg (laterS a b c d).toArray)) w') :
    Calls Tryz.prog 217 #[.slice (some ⟨B, 0, none⟩) 2 2, .func (.func 100) #[] #[]] w post := by
  have HK := hid K; clear K
  obtain ⟨y, hy⟩ : ∃ y, cmpS c d a b = y := ⟨_, rfl⟩
  obtain ⟨t, ht⟩ : ∃ t, decide (0 < y) = t := ⟨_, rfl⟩
  have HT : Hid (laterB c d a b = t) := hid (by unfold laterB; rw [hy, ht])
  have HY := hid hy
  have HD := hid ht
  clear hy ht
  go_enter Tryz.func217, Tryz.ntmps217
  go_wp2_with (first
    | (refine wpl_allocA rfl rfl zero_st st ?_; rintro V w2 s2; obtain ⟨l0, l1⟩ := twoLd (St.pick 1 s2))
    | (refine wpl_allocA rfl rfl zero_st s2 ?_; rintro M w3 s3)
    | (refine wpl_storeA (vs := [.int .i64 a, .int .i64 b]) rfl (.tmp 5) (.tmp 13) (by rfl) agg_st (by rfl) (by rfl) rfl (st_one _ _) s3 rfl ?_; rintro w4 s4))
  go_loopw [6] (fun ii wr => ∃ i : Nat, 1 ≤ i ∧ i ≤ 2 ∧ ii = .int .i64 i ∧ St W wr (row M 0 (mxS i a b c d) :: row V 0 [.int .i64 0, .int .i64 0] :: row B 0 [.int .i64 a, .int .i64 b, .int .i64 c, .int .i64 d] :: R)) (fun ii _ => 2 - (intOf ii).toNat)
  case atStart => exact ⟨1, by omega, by omega, rfl, s4⟩
  case round =>
    obtain ⟨i, hi1, hi2, rfl, sr⟩ := hrel
    rcases (by omega : i = 1 ∨ i = 2) with rfl | rfl
    · have sr : St W wr (row M 0 [.int .i64 a, .int .i64 b] :: row V 0 [.int .i64 0, .int .i64 0] :: row B 0 [.int .i64 a, .int .i64 b, .int .i64 c, .int .i64 d] :: R) := sr
      have hD := HD.out
      cases t with
      | true =>
        go_wp2_with fail
        try simp only [Act.put, List.setIfInBounds_toArray, List.set_cons_succ, List.set_cons_zero]
        have hN : Nonempty (Cls (fun w' => St W w' (row M 0 [.int .i64 a, .int .i64 b] :: row V 0 [.int .i64 0, .int .i64 0] :: row B 0 [.int .i64 a, .int .i64 b, .int .i64 c, .int .i64 d] :: R))) := Cls.inh sr
        have f1 := fun s : Cls (fun w' => St W w' (row M 0 [.int .i64 a, .int .i64 b] :: row V 0 [.int .i64 0, .int .i64 0] :: row B 0 [.int .i64 a, .int .i64 b, .int .i64 c, .int .i64 d] :: R)) => (twoLd (St.pick 2 s.h)).2
        have fM := fun s : Cls (fun w' => St W w' (row M 0 [.int .i64 a, .int .i64 b] :: row V 0 [.int .i64 0, .int .i64 0] :: row B 0 [.int .i64 a, .int .i64 b, .int .i64 c, .int .i64 d] :: R)) => run_loadG agg_st (vs := [.int .i64 a, .int .i64 b]) rfl s.h.rowAll
        refine wp_region_class (fun w' => St W w' (row M 0 [.int .i64 a, .int .i64 b] :: row V 0 [.int .i64 0, .int .i64 0] :: row B 0 [.int .i64 a, .int .i64 b, .int .i64 c, .int .i64 d] :: R)) (by kernel_rfl) (by kernel_rfl) sr.drew ?_
        repeat (go_big_quiet_step ((rename_i s; go_at_call 100; refine cmpS_c s.h ?_; rintro w7 s7; rw [HY.out]; exact Cls.end _ s7)))
        clear hN f1 fM
        refine wpQuiet_nil ?_
        rintro ⟨w5, s5⟩
        dsimp only
        have m1 := (twoLd (St.pick 2 s5)).2
        go_wp2_with (refine wpl_storeA (vs := [.int .i64 c, .int .i64 d]) rfl (.tmp 5) (.tmp 31) (by rfl) agg_st (by rfl) (by rfl) rfl (st_one _ _) s5 rfl ?_; rintro w6 s6)
        go_roundw
        case rel => exact ⟨2, by omega, by omega, by go_num, by show St W _ (row M 0 (laterS a b c d) :: _); unfold laterS; rw [if_pos HT.out]; exact s6⟩
        case measure => simp [intOf]
      | false =>
        go_wp2_with fail
        try simp only [Act.put, List.setIfInBounds_toArray, List.set_cons_succ, List.set_cons_zero]
        have hN : Nonempty (Cls (fun w' => St W w' (row M 0 [.int .i64 a, .int .i64 b] :: row V 0 [.int .i64 0, .int .i64 0] :: row B 0 [.int .i64 a, .int .i64 b, .int .i64 c, .int .i64 d] :: R))) := Cls.inh sr
        have f1 := fun s : Cls (fun w' => St W w' (row M 0 [.int .i64 a, .int .i64 b] :: row V 0 [.int .i64 0, .int .i64 0] :: row B 0 [.int .i64 a, .int .i64 b, .int .i64 c, .int .i64 d] :: R)) => (twoLd (St.pick 2 s.h)).2
        have fM := fun s : Cls (fun w' => St W w' (row M 0 [.int .i64 a, .int .i64 b] :: row V 0 [.int .i64 0, .int .i64 0] :: row B 0 [.int .i64 a, .int .i64 b, .int .i64 c, .int .i64 d] :: R)) => run_loadG agg_st (vs := [.int .i64 a, .int .i64 b]) rfl s.h.rowAll
        refine wp_region_class (fun w' => St W w' (row M 0 [.int .i64 a, .int .i64 b] :: row V 0 [.int .i64 0, .int .i64 0] :: row B 0 [.int .i64 a, .int .i64 b, .int .i64 c, .int .i64 d] :: R)) (by kernel_rfl) (by kernel_rfl) sr.drew ?_
        repeat (go_big_quiet_step ((rename_i s; go_at_call 100; refine cmpS_c s.h ?_; rintro w7 s7; rw [HY.out]; exact Cls.end _ s7)))
        clear hN f1 fM
        refine wpQuiet_nil ?_
        rintro ⟨w5, s5⟩
        dsimp only
        go_wp2_with fail
        go_roundw
        case rel => exact ⟨2, by omega, by omega, by go_num, by show St W _ (row M 0 (laterS a b c d) :: _); unfold laterS; rw [if_neg (by rw [HT.out]; exact Bool.false_ne_true)]; exact s5⟩
        case measure => simp [intOf]
    · have hl : (laterS a b c d).length = 2 := by rw [laterS_eq]; rfl
      obtain ⟨p, q, hpq⟩ : ∃ p q, laterS a b c d = [.int .i64 p, .int .i64 q] := ⟨_, _, laterS_eq a b c d⟩
      have sr : St W wr (row M 0 (laterS a b c d) :: row V 0 [.int .i64 0, .int .i64 0] :: row B 0 [.int .i64 a, .int .i64 b, .int .i64 c, .int .i64 d] :: R) := sr
      rw [hpq] at sr
      have lM := run_loadG agg_st (vs := [.int .i64 p, .int .i64 q]) rfl sr.rowAll
      have HK2 := HK.out
      rw [hpq] at HK2
      have HK3 := hid HK2
      clear HK2 hpq hl
      go_wp2_with (refine wpl_storeA (vs := [.int .i64 p, .int .i64 q]) rfl (.tmp 4) (.tmp 32) (by rfl) agg_st (by rfl) (by rfl) rfl (st_one _ _) (St.pick 1 sr) rfl ?_; rintro w6 s6)
      have hL := run_loadA agg_st (vs := [.int .i64 p, .int .i64 q]) rfl s6.rowAll
      exact bodyPost_ret (v := .agg #[Value.int .i64 p, .int .i64 q]) (by simp [results, Tryz.results217, asAddr, hL, Act.put]) rfl (HK3.out _ (s6.dropN 2))

set_option maxRecDepth 100000 in
set_option maxHeartbeats 2000000 in
theorem latest_c {B : Nat} {a b c d : Int} (st : St W w (row B 0 [.int .i64 a, .int .i64 b, .int .i64 c, .int .i64 d] :: R))
    (K : ∀ w', St W w' (row B 0 [.int .i64 a, .int .i64 b, .int .i64 c, .int .i64 d] :: R) → post (.returned (.agg (laterS a b c d).toArray)) w') :
    Calls Tryz.prog 197 #[.slice (some ⟨B, 0, none⟩) 2 2] w post := by
  obtain ⟨p, q, hpq⟩ : ∃ p q, laterS a b c d = [.int .i64 p, .int .i64 q] := ⟨_, _, laterS_eq a b c d⟩
  rw [hpq] at K
  have HP := hid hpq
  have HK := hid K; clear K hpq
  go_enter Tryz.func197, Tryz.ntmps197
  go_wp2_with (first
    | (refine wpl_allocA rfl rfl zero_st st ?_; rintro V w2 s2)
    | (go_at_call 217; refine maxS_c (St.pick 1 s2) ?_; rintro w3 s3; rw [HP.out])
    | (refine wpl_storeA (vs := [.int .i64 p, .int .i64 q]) rfl (.tmp 2) (.tmp 8) (by rfl) agg_st (by rfl) (by rfl) rfl (st_one _ _) (St.pick 1 s3) rfl ?_; rintro w4 s4))
  have hL := run_loadA agg_st (vs := [.int .i64 p, .int .i64 q]) rfl s4.rowAll
  exact bodyPost_ret (v := .agg #[Value.int .i64 p, .int .i64 q]) (by simp [results, Tryz.results197, asAddr, hL, Act.put]) rfl (HK.out _ s4.drop)

set_option maxRecDepth 100000 in
set_option maxHeartbeats 2000000 in
theorem both_c {a e : EnV} (st : St W w R) (K : ∀ w', St W w' R → post (.returned (.agg (bothE a e).cells.toArray)) w') :
    Calls Tryz.prog 168 #[.agg a.cells.toArray, .agg e.cells.toArray] w post := by
  obtain ⟨p, q, hpq⟩ : ∃ p q, laterS a.ac a.az e.ac e.az = [.int .i64 p, .int .i64 q] ∧ (bothE a e) = { a with ac := p, az := q, age := min a.age e.age } := ⟨_, _, laterS_eq _ _ _ _, by unfold bothE; rw [Int.min_def]⟩
  rw [hpq.2] at K
  have HP := hid hpq.1
  obtain ⟨m, hm⟩ : ∃ m, min a.age e.age = m := ⟨_, rfl⟩
  rw [hm] at K
  have HM := hid hm
  have HK := hid K; clear K hpq hm
  go_enter Tryz.func168, Tryz.ntmps168
  go_wp2_with (first
    | (refine wpl_boxA (vs := a.cells) rfl (.tmp 0) rfl rfl st ?_; rintro T w1 s1)
    | (refine wpl_boxA (vs := e.cells) rfl (.tmp 1) rfl rfl s1 ?_; rintro U w2 s2)
    | (refine wpl_allocA rfl rfl zero_en s2 ?_; rintro V w3 s3; have hA := (enL (St.pick 2 s3)).2.2.2.2.1; have hE := (enL (St.pick 1 s3)).2.2.2.2.1; have hbs := run_bslS a.ac a.az e.ac e.az w3; have s4 := s3.alloc [Value.int .i64 a.ac, .int .i64 a.az, .int .i64 e.ac, .int .i64 e.az].toArray 57)
    | (go_at_call 197; refine latest_c s4 ?_; rintro w5 s5; rw [HP.out])
    | (refine wpl_storeP (vs := [.int .i64 p, .int .i64 q]) rfl (.tmp 11) (.tmp 10) 5 (by rfl) agg_st (by rfl) (by rfl) rfl (st_one _ _) (St.pick 3 s5) (by simp [EnV.cells]) ?_; rintro w6 s6; have s7 : St W w6 (row T 0 ({ a with ac := p, az := q } : EnV).cells :: row w3.heap.size 0 [Value.int .i64 a.ac, .int .i64 a.az, .int .i64 e.ac, .int .i64 e.az] :: row V 0 EnV.zero.cells :: row U 0 e.cells :: R) := s6; have g8 := (enL s7).2.2.2.2.2.2.1; have e8 := (enL (St.pick 3 s7)).2.2.2.2.2.2.1; have k8 : w6.cell? ⟨T, 8, none⟩ = some (.int .i64 a.age) := (by have := s7.rowCell (i := 8) (v := .int .i64 a.age) rfl; rwa [Nat.zero_add] at this); have f8 : w6.frozen? ⟨T, 8, none⟩ = false := (by have := s7.rowFree (i := 8) (by simp [EnV.cells]); rwa [Nat.zero_add] at this))
    | (refine wpl_min rfl (.tmp 13) (.tmp 15) rfl rfl rfl ?_; rw [HM.out]; have s8 : St W (w6.setCell ⟨T, 8, none⟩ (.int .i64 m)) (row T 0 ({ a with ac := p, az := q, age := m } : EnV).cells :: row w3.heap.size 0 [Value.int .i64 a.ac, .int .i64 a.az, .int .i64 e.ac, .int .i64 e.az] :: row V 0 EnV.zero.cells :: row U 0 e.cells :: R) := (by have := s7.rowSet (i := 8) (by simp [EnV.cells]) (.int .i64 m); rwa [Nat.zero_add] at this); have hT := run_loadG agg_en (vs := ({ a with ac := p, az := q, age := m } : EnV).cells) rfl s8.rowAll)
    | (refine wpl_storeA (vs := ({ a with ac := p, az := q, age := m } : EnV).cells) rfl (.tmp 4) (.tmp 18) (by rfl) agg_en (by rfl) (by rfl) rfl (env_one _) (St.pick 2 s8) rfl ?_; rintro w9 s9))
  have hL := run_loadA agg_en (vs := ({ a with ac := p, az := q, age := m } : EnV).cells) rfl s9.rowAll
  exact bodyPost_ret (v := .agg ({ a with ac := p, az := q, age := m } : EnV).cells.toArray) (by simp [results, Tryz.results168, asAddr, hL]) rfl (HK.out _ (s9.dropN 4))
end
end Go.Proofs.YtojfjbbggpfijaaGreatDoor

/- Graves: two entries compared. -/
namespace Go.Proofs.YtojfjbbggpfijaaGreatDoor
open Go.RowKit Go.Qd

def eqEG (x y : Operand) (a b : Value) : Sem Value := do eqGuard .eql 67 x y a b; Go.binOp .eql 67 a b
theorem execOp_eqE (ρ : Operand → Value) (dst : Option Tmp) (x y : Operand) (r : TypeId) (ty : TypeId) (pos : String) (after : Array Edge) (guard : Option (Nat × Bool)) :
    execOp ρ { dst, op := .binOp .eql 67 x y r, type := ty, pos, after, guard } = (do pure (.value (← eqEG x y (ρ x) (ρ y)))) := by simp [execOp, eqEG]

theorem toList_inj {a b : ByteArray} (h : a.toList = b.toList) : a = b := by
  rw [ByteArray.toList_eq, ByteArray.toList_eq] at h
  obtain ⟨⟨x⟩⟩ := a
  obtain ⟨⟨y⟩⟩ := b
  simp at h
  rw [h]

theorem run_eqE (x y : Operand) (a b : EnV) (w : World) : ∃ t : Bool, (t = true ↔ a = b) ∧ (eqEG x y (.agg a.cells.toArray) (.agg b.cells.toArray)).run Tryz.prog w = .ok (.bool t) w := by
  obtain ⟨k, v, d, sc, ss, ac, az, kp, ag⟩ := a
  obtain ⟨k', v', d', sc', ss', ac', az', kp', ag'⟩ := b
  unfold eqEG EnV.cells
  go_simp
  by_cases h : k = k' ∧ v = v' ∧ d = d' ∧ sc = sc' ∧ ss = ss' ∧ ac = ac' ∧ az = az' ∧ kp = kp' ∧ ag = ag'
  · refine Or.inr ⟨h, ?_⟩
    obtain ⟨rfl, rfl, rfl, rfl, rfl, rfl, rfl, rfl, rfl⟩ := h
    simp
  · exact Or.inl ⟨fun a1 a2 a3 a4 a5 a6 a7 a8 a9 => h ⟨a1, a2, a3, a4, a5, a6, a7, a8, a9⟩, fun a1 a2 a3 a4 a5 a6 a7 a8 a9 => h ⟨toList_inj a1, toList_inj a2, a3, a4, a5, a6, a7, a8, a9⟩⟩
open Classical in
noncomputable def eqEn (a b : EnV) : Bool := decide (a = b)
open Classical in
theorem run_eqEn (a b : EnV) (x y : Operand) (w : World) : (eqEG x y (.agg a.cells.toArray) (.agg b.cells.toArray)).run Tryz.prog w = .ok (.bool (eqEn a b)) w := by
  obtain ⟨t, h1, h2⟩ := run_eqE x y a b w
  rw [h2]
  have : t = eqEn a b := by
    unfold eqEn
    cases t with
    | true => exact (decide_eq_true (h1.1 rfl)).symm
    | false => exact (decide_eq_false (fun h => by have := h1.2 h; cases this)).symm
  rw [this]

/-- What is there already is put. -/
theorem tput_same {l : List KE} {k : ByteArray} {e : EnV} (hs : TSrt l) (h : thas l k = true) (he : tget l k = e) : tput l k e = l := by
  obtain ⟨x, h1, h2, h3⟩ := tget_has hs h
  have hx : x = (k, e) := by rw [← he, h3, ← h2]
  have := putK_old kLt_ord hs (k, e) h
  unfold tput
  rw [← this]
  rw [hx] at h1
  apply List.ext_getElem?
  intro i
  rw [List.getElem?_set]
  split
  · rename_i hi
    subst hi
    split
    · exact h1.symm
    · rename_i hl
      rw [List.getElem?_eq_none (show l.length ≤ rankK kLt Prod.fst l k from Nat.not_lt.1 hl)] at h1; cases h1
  · rfl
theorem tget_key {l : List KE} {k : ByteArray} (hs : TSrt l) (hg : ∀ p ∈ l, p.1 = p.2.key) (h : thas l k = true) : (tget l k).key = k := by
  obtain ⟨x, h1, h2, h3⟩ := tget_has hs h
  rw [h3, ← hg x (List.mem_of_getElem? h1), h2]
end Go.Proofs.YtojfjbbggpfijaaGreatDoor
