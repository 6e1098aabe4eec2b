/- Msgs: several texts, joined. The document's message as the program's. -/
import Derived.Test.YtojfjbbggpfijaaGreatDoorMarks
import Derived.Test.YtojfjbbggpfijaaGreatDoorTabX
import Derived.Test.YtojfjbbggpfijaaGreatDoorWires
import Derived.Deep.DeepCutAuto
import Derived.Deep.RegionHeld3
namespace Go.Proofs.YtojfjbbggpfijaaGreatDoor
open Go.RowKit Go.Qd

def allocG (t : TypeId) : Sem Value := Instr.alloc t true (.tuple #[])
theorem execOp_allocM (ρ : Operand → Value) (dst : Option Tmp) (ty : TypeId) (pos : String) (after : Array Edge) (guard : Option (Nat × Bool)) :
    execOp ρ { dst, op := .alloc 62, type := ty, pos, after, guard } = (do pure (.value (← allocG 62))) := rfl
theorem run_allocM (w : World) : (allocG 62).run Tryz.prog w = .ok (.pointer (some ⟨w.heap.size, 0, none⟩)) (w.alloc (.cells zeroM.cells.toArray 62)) := by
  unfold allocG
  simp [Instr.alloc, newVar, newRow, Value.cells, Result.andThen]
  rfl
theorem execOp_storeM (ρ : Operand → Value) (dst : Option Tmp) (a x : Operand) (ty : TypeId) (pos : String) (after : Array Edge) (guard : Option (Nat × Bool)) :
    execOp ρ { dst, op := .store 62 a x, type := ty, pos, after, guard } = (do storeG 62 (ρ a) (ρ x); pure .skip) := rfl
def b8G (a b c d e f g h : Value) : Sem Value := Instr.build 62 #[(0, a), (1, b), (2, c), (3, d), (4, e), (5, f), (6, g), (7, h)]
theorem execOp_b8 (ρ : Operand → Value) (dst : Option Tmp) (a b c d e f g h : Operand) (ty : TypeId) (pos : String) (after : Array Edge) (guard : Option (Nat × Bool)) :
    execOp ρ { dst, op := .build 62 #[(0, a), (1, b), (2, c), (3, d), (4, e), (5, f), (6, g), (7, h)], type := ty, pos, after, guard } = (do pure (.value (← b8G (ρ a) (ρ b) (ρ c) (ρ d) (ρ e) (ρ f) (ρ g) (ρ h)))) := by simp [execOp, b8G]
/-- A message without its marks and entries, and with some. -/
def MsgV.bare2 (m : MsgV) : MsgV := { m with ma := none, mn := 0, mq := 0, ea := none, en := 0, eq := 0 }
def MsgV.withM (m : MsgV) (a : Option Addr) (n c : Nat) : MsgV := { m with ma := a, mn := n, mq := c }
def MsgV.withE (m : MsgV) (a : Option Addr) (n c : Nat) : MsgV := { m with ea := a, en := n, eq := c }
theorem run_b8 (m : MsgV) (w : World) : (b8G (.int .i64 m.kind) (.int .i64 m.peer) (.int .i64 m.hops) (.bool m.high) (.slice m.pa m.pn m.pc) (.int .i64 m.number) (.int .u64 m.sum) (.agg m.mark.cells.toArray)).run Tryz.prog w =
    .ok (.agg m.bare2.cells.toArray) w := by kernel_rfl
def bsMG (x : Value) : Sem Value := Instr.buildSlice 60 1 #[(0, x)]
def bsEWG (x : Value) : Sem Value := Instr.buildSlice 54 1 #[(0, x)]
theorem execOp_bsM (ρ : Operand → Value) (dst : Option Tmp) (a : Operand) (ty : TypeId) (pos : String) (after : Array Edge) (guard : Option (Nat × Bool)) :
    execOp ρ { dst, op := .buildSlice 60 1 #[(0, a)], type := ty, pos, after, guard } = (do pure (.value (← bsMG (ρ a)))) := by simp [execOp, bsMG]
theorem execOp_bsEW (ρ : Operand → Value) (dst : Option Tmp) (a : Operand) (ty : TypeId) (pos : String) (after : Array Edge) (guard : Option (Nat × Bool)) :
    execOp ρ { dst, op := .buildSlice 54 1 #[(0, a)], type := ty, pos, after, guard } = (do pure (.value (← bsEWG (ρ a)))) := by simp [execOp, bsEWG]
theorem run_bsM (x : MkV) (w : World) : (bsMG (.agg x.cells.toArray)).run Tryz.prog w = .ok (.slice (some ⟨w.heap.size, 0, none⟩) 1 1) (w.alloc (.cells x.cells.toArray 59)) := by kernel_rfl
theorem run_bsEW (x : EnV) (w : World) : (bsEWG (.agg x.cells.toArray)).run Tryz.prog w = .ok (.slice (some ⟨w.heap.size, 0, none⟩) 1 1) (w.alloc (.cells x.cells.toArray 67)) := by kernel_rfl
theorem rmkLd {w : World} {b o n c i : Nat} {l : List MkV} (rd : RdS w 3 (some ⟨b, o, none⟩) n c (mkC l)) (hi : i < l.length) :
    (loadG 46 (.pointer (some ⟨b, o + i * 3, none⟩))).run Tryz.prog w = .ok (.agg l[i].cells.toArray) w := run_loadG agg_rmk rfl (fun _ _ hu => rd.at2 (mkC_get hi hu))
theorem renLd {w : World} {b o n c i : Nat} {l : List EnV} (rd : RdS w 9 (some ⟨b, o, none⟩) n c (enC l)) (hi : i < l.length) :
    (loadG 43 (.pointer (some ⟨b, o + i * 9, none⟩))).run Tryz.prog w = .ok (.agg l[i].cells.toArray) w := run_loadG agg_ren rfl (fun _ _ hu => rd.at2 (enC_get hi hu))
theorem mkC_snoc2 {l : List MkV} {i : Nat} (h : i < l.length) : mkC (l.take (i + 1)) = mkC (l.take i) ++ l[i].cells := by unfold mkC; rw [List.take_succ_eq_append_getElem h, List.map_append, List.flatten_append]; simp only [List.map_cons, List.map_nil, List.flatten_cons, List.flatten_nil, List.append_nil]
theorem enC_snoc2 {l : List EnV} {i : Nat} (h : i < l.length) : enC (l.take (i + 1)) = enC (l.take i) ++ l[i].cells := by unfold enC; rw [List.take_succ_eq_append_getElem h, List.map_append, List.flatten_append]; simp only [List.map_cons, List.map_nil, List.flatten_cons, List.flatten_nil, List.append_nil]
attribute [local go_sem ↓] execOp_bsM execOp_bsEW
attribute [local go_sem] run_bsM run_bsEW
attribute [local go_sem ↓] execOp_ldAny execOp_allocM execOp_storeM execOp_b8
attribute [local go_sem] run_allocM run_b8

section
variable {W w : World} {R : List HP} {post : Ending → World → Prop} {m : MsgV} {ks : List MkV} {es : List EnV}

theorem msgR {T : Nat} (s : St W w (row T 0 m.cells :: R)) :
    (loadG 3 (.pointer (some ⟨T, 0, none⟩))).run Tryz.prog w = .ok (.int .i64 m.kind) w ∧ (loadG 3 (.pointer (some ⟨T, 1, none⟩))).run Tryz.prog w = .ok (.int .i64 m.peer) w ∧
    (loadG 3 (.pointer (some ⟨T, 2, none⟩))).run Tryz.prog w = .ok (.int .i64 m.hops) w ∧ (loadG 4 (.pointer (some ⟨T, 3, none⟩))).run Tryz.prog w = .ok (.bool m.high) w ∧
    (loadG 24 (.pointer (some ⟨T, 4, none⟩))).run Tryz.prog w = .ok (.slice m.pa m.pn m.pc) w ∧ (loadG 3 (.pointer (some ⟨T, 5, none⟩))).run Tryz.prog w = .ok (.int .i64 m.number) w ∧
    (loadG 44 (.pointer (some ⟨T, 6, none⟩))).run Tryz.prog w = .ok (.int .u64 m.sum) w ∧ (loadG 46 (.pointer (some ⟨T, 7, none⟩))).run Tryz.prog w = .ok (.agg #[.int .i64 m.mc, .int .i64 m.ms, .string m.key]) w := by
  obtain ⟨c0, c1, c2, c3, c4, c5, c6, _⟩ := boxM s
  refine ⟨run_ldP (by kernel_rfl) c0, run_ldP (by kernel_rfl) c1, run_ldP (by kernel_rfl) c2, run_ldP (by kernel_rfl) c3, run_ldP (by kernel_rfl) c4, run_ldP (by kernel_rfl) c5, run_ldP (by kernel_rfl) c6, ?_⟩
  exact run_loadG (o := 0 + 7) agg_rmk (vs := [.int .i64 m.mc, .int .i64 m.ms, .string m.key]) rfl (St.rowPart s 7 (xs := [.int .i64 m.mc, .int .i64 m.ms, .string m.key]) (ys := [.slice m.ma m.mn m.mq, .slice m.ea m.en m.eq]) rfl)
theorem msgS {T : Nat} (s : St W w (row T 0 m.cells :: R)) :
    (loadG 47 (.pointer (some ⟨T, 10, none⟩))).run Tryz.prog w = .ok (.slice m.ma m.mn m.mq) w ∧ (loadG 48 (.pointer (some ⟨T, 11, none⟩))).run Tryz.prog w = .ok (.slice m.ea m.en m.eq) w := by
  obtain ⟨_, _, _, _, _, _, _, _, _, _, c8, c9⟩ := boxM s
  exact ⟨run_ldP (by kernel_rfl) c8, run_ldP (by kernel_rfl) c9⟩
theorem msgP {T : Nat} (s : St W w (row T 0 m.cells :: R)) :
    ((loadG 60 (.pointer (some ⟨T, 10, none⟩))).run Tryz.prog w = .ok (.slice m.ma m.mn m.mq) w ∧ (loadG 54 (.pointer (some ⟨T, 11, none⟩))).run Tryz.prog w = .ok (.slice m.ea m.en m.eq) w) ∧
    w.cell? ⟨T, 10, none⟩ = some (.slice m.ma m.mn m.mq) ∧ w.cell? ⟨T, 11, none⟩ = some (.slice m.ea m.en m.eq) ∧ w.frozen? ⟨T, 10, none⟩ = false ∧ w.frozen? ⟨T, 11, none⟩ = false := by
  obtain ⟨_, _, _, _, _, _, _, _, _, _, c8, c9⟩ := boxM s
  have f8 := s.rowFree (i := 10) (by simp [MsgV.cells])
  have f9 := s.rowFree (i := 11) (by simp [MsgV.cells])
  rw [Nat.zero_add] at f8 f9
  exact ⟨⟨run_ldP (by kernel_rfl) c8, run_ldP (by kernel_rfl) c9⟩, c8, c9, f8, f9⟩
theorem bare2_withM (m : MsgV) : m.bare2.withM none 0 0 = m.bare2 := rfl

theorem room_new (w : World) : roomG (w.alloc (.cells zeroM.cells.toArray 62)) w.heap.size 0 12 := St.roomG ((St.init w).alloc zeroM.cells.toArray 62) rfl

set_option maxRecDepth 100000 in
set_option maxHeartbeats 8000000 in
theorem msgOf_c (st : St W w R) (hpM : Rds W R 3 m.ma m.mn m.mq (mkC ks)) (hnM : m.mn ≤ 1000) (hpE : Rds W R 9 m.ea m.en m.eq (enC es)) (hnE : m.en ≤ 1000)
    (K : ∀ ma mq ea eq w', St W w' (OwnS 3 ma m.mn mq (mkC ks) :: OwnS 9 ea m.en eq (enC es) :: R) → post (.returned (.agg ((m.withM ma m.mn mq).withE ea m.en eq).cells.toArray)) w') :
    Calls Tryz.prog 14 #[.agg m.cells.toArray] w post := by
  have HK := hid K; clear K
  obtain ⟨ma, hma⟩ : ∃ x, m.ma = x := ⟨_, rfl⟩
  obtain ⟨mn, hmn⟩ : ∃ x, m.mn = x := ⟨_, rfl⟩
  obtain ⟨mq, hmq⟩ : ∃ x, m.mq = x := ⟨_, rfl⟩
  obtain ⟨ea, hea⟩ : ∃ x, m.ea = x := ⟨_, rfl⟩
  obtain ⟨en, hen⟩ : ∃ x, m.en = x := ⟨_, rfl⟩
  obtain ⟨eq, heq⟩ : ∃ x, m.eq = x := ⟨_, rfl⟩
  rw [hma, hmn, hmq] at hpM
  rw [hea, hen, heq] at hpE
  rw [hmn] at hnM
  rw [hen] at hnE
  rw [hmn, hen] at HK
  have HF := hid (And.intro hma (And.intro hmn (And.intro hmq (And.intro hea (And.intro hen heq)))))
  clear hma hmn hmq hea hen heq
  have HPM := hid hpM; have HPE := hid hpE
  have HNl : Hid (ks.length = mn ∧ es.length = en) := hid ⟨mkC_ln (hpM w st), enC_ln (hpE w st)⟩
  have HNM := hid hnM; have HNE := hid hnE
  clear hpM hpE hnM hnE
  go_enter Tryz.func14, Tryz.ntmps14
  go_wp2_with (first
    | (refine wpl_boxA (vs := m.cells) rfl (.tmp 0) rfl rfl st ?_; rintro T w1 s1)
    | (refine wpl_allocA rfl rfl zero58 s1 ?_; rintro E w2 s2))
  simp only [Act.put, List.setIfInBounds_toArray, List.set_cons_succ, List.set_cons_zero]
  have u : St W w2.drew (row T 0 m.cells :: row E 0 zeroM.cells :: R) := (St.pick 1 s2).drew
  go_cut [3] (fun p wx => ∃ B, p = .pointer (some ⟨B, 0, none⟩) ∧ St W wx (row B 0 m.bare2.cells :: row T 0 m.cells :: row E 0 zeroM.cells :: R))
  case first =>
    have gA := msgR u
    have u2 := ((St.pick 1 s2).alloc zeroM.cells.toArray 62).drew
    have gB := msgR (St.pick 1 u2)
    have HR := hid room_new
    have hone : oneG m.bare2.cells 12 := ⟨rfl, msg_one _⟩
    have agg12 := agg58
    have rA := run_storeG agg12 (b := w2.heap.size) (o := 0) (u2.roomG rfl) hone
    go_region_held3 (fun w' => (loadG 3 (.pointer (some ⟨T, 0, none⟩))).run Tryz.prog w' = .ok (.int .i64 m.kind) w' ∧ (loadG 3 (.pointer (some ⟨T, 1, none⟩))).run Tryz.prog w' = .ok (.int .i64 m.peer) w' ∧
      (loadG 3 (.pointer (some ⟨T, 2, none⟩))).run Tryz.prog w' = .ok (.int .i64 m.hops) w' ∧ (loadG 4 (.pointer (some ⟨T, 3, none⟩))).run Tryz.prog w' = .ok (.bool m.high) w' ∧
      (loadG 24 (.pointer (some ⟨T, 4, none⟩))).run Tryz.prog w' = .ok (.slice m.pa m.pn m.pc) w' ∧ (loadG 3 (.pointer (some ⟨T, 5, none⟩))).run Tryz.prog w' = .ok (.int .i64 m.number) w' ∧
      (loadG 44 (.pointer (some ⟨T, 6, none⟩))).run Tryz.prog w' = .ok (.int .u64 m.sum) w' ∧ (loadG 46 (.pointer (some ⟨T, 7, none⟩))).run Tryz.prog w' = .ok (.agg #[.int .i64 m.mc, .int .i64 m.ms, .string m.key]) w')
      (first
        | with_reducible exact gE
        | with_reducible exact gD
        | with_reducible exact gC
        | with_reducible exact gB
        | with_reducible exact gA)
      (first
        | (go_at_call 43; first
            | (refine mkOf_c (m := m.mark) u ?_; rintro w5 s5; have gC := msgR s5; have u5 := s5.alloc zeroM.cells.toArray 62; have gD := msgR (St.pick 1 u5); have rB := run_storeG agg12 (b := w5.heap.size) (o := 0) (u5.roomG rfl) hone; have u6 := u5.setAll (vs := m.bare2.cells) rfl; have gE := msgR (St.pick 1 u6))
            | (refine mkOf_c (m := m.mark) u2 ?_; rintro w5 s5; have gC := msgR (St.pick 1 s5); have rB := run_storeG agg12 (b := w2.heap.size) (o := 0) (s5.roomG rfl) hone; have u6 := s5.setAll (vs := m.bare2.cells) rfl; have gE := msgR (St.pick 1 u6))))
    all_goals
      go_wp2_with fail
      go_meet
      case rel => exact ⟨_, rfl, u6⟩
  case rest =>
    obtain ⟨B, rfl, s6⟩ := hcut
    have c8 := (msgS (St.pick 1 s6)).1
    rw [HF.out.1, HF.out.2.1, HF.out.2.2.1] at c8
    go_wp2_with fail
    go_loopw [29] (fun ii wr => ∃ (i : Nat) (a : Option Addr) (c : Nat), i ≤ mn ∧ ii = .int .i64 i ∧ St W wr (row B 0 (m.bare2.withM a i c).cells :: OwnS 3 a i c (mkC (ks.take i)) :: row T 0 m.cells :: row E 0 zeroM.cells :: R)) (fun ii _ => mn - (intOf ii).toNat)
    case atStart => exact ⟨0, none, 0, Nat.zero_le _, rfl, St.pick 1 (OwnS.none0 (sz := 3) s6)⟩
    case round =>
      obtain ⟨i, a, c, hi, rfl, sr⟩ := hrel
      by_cases hlt : i < mn
      · have hi2 : (i : Int) < (mn : Int) := by omega
        have rd := HPM.out _ (sr.dropN 4)
        obtain ⟨g3, o3, rfl⟩ := rd.addr (by omega)
        have hiA : i < ks.length := by rw [HNl.out.1]; exact hlt
        have ci := rmkLd rd hiA
        have hsn := mkC_snoc2 hiA
        obtain ⟨q, hq⟩ : ∃ q, ks[i] = q := ⟨_, rfl⟩
        rw [hq] at ci hsn
        have HS := hid hsn
        have hb1 : (i + 1) * 32 ≤ 140737488355328 := by have := HNM.out; omega
        have hm1 : i + 1 ≤ maxLen := by have := HNM.out; unfold maxLen; omega
        clear hq hsn rd hiA
        go_wp2_with (first
          | (refine wpl_allocA rfl rfl zero_mkTo sr ?_; rintro P w7 s7)
          | (refine wpl_storeA (vs := q.cells) rfl (.tmp 5) (.tmp 32) (by rfl) agg_rmk (by rfl) (by rfl) rfl (mk_one q) s7 rfl ?_; rintro w8 s8))
        simp only [Act.put, List.setIfInBounds_toArray, List.set_cons_succ, List.set_cons_zero]
        have u := s8.drew
        have lP : ∀ (w' : World) (R' : List HP), St W w' (row P 0 q.cells :: R') → (loadG 46 (.pointer (some ⟨P, 0, none⟩))).run Tryz.prog w' = .ok (.agg q.cells.toArray) w' := fun w' R' s => run_loadG (o := 0) agg_rmk rfl s.rowAll
        have l1 := lP _ _ u
        obtain ⟨⟨e8, e9⟩, _⟩ := msgP (St.pick 1 u)
        have LP := hid lP
        clear lP
        go_region_law (first
          | (go_simp; go_at_call 43; refine mkOf_c u ?_; rintro wA sA; have l2 := LP.out _ _ sA; obtain ⟨⟨p8, p9⟩, _⟩ := msgP (St.pick 1 sA)
             have sB := sA.alloc q.cells.toArray 59
             obtain ⟨⟨r8, r9⟩, _⟩ := msgP (St.pick 2 sB))
          | (refine step_append_st rfl (.tmp 34) (.tmp 37) rfl Tryz.elem60 rfl rfl (St.pick 3 sB) (St.rowRd (sz := 3) (n := 1) sB rfl (by decide) (mk_one q)) hb1 hm1 ?_; rintro a9 c9 w9 s9; obtain ⟨_, x8, x9, y8, y9⟩ := msgP (St.pick 3 s9)))
        all_goals
          have t := (St.pick 3 s9).rowSet (i := 10) (by simp [MsgV.cells]) (.slice a9 (i + 1) c9)
          rw [Nat.zero_add] at t
          have t2 : St W _ (row B 0 (m.bare2.withM a9 (i + 1) c9).cells :: _) := t
          go_wp2_with fail
          go_roundw
          case rel => exact ⟨i + 1, a9, c9, by omega, by go_num, by rw [HS.out]; exact St.drop (St.pick 2 (St.drop (St.pick 2 t2)))⟩
          case measure => simp [intOf]; omega
      · have hie : mn = i := by omega
        subst hie
        rw [List.take_of_length_le (by rw [HNl.out.1]; exact Nat.le_refl _)] at sr
        obtain ⟨am, rfl⟩ : ∃ x, x = a := ⟨a, rfl⟩
        obtain ⟨cm, rfl⟩ : ∃ x, x = c := ⟨c, rfl⟩
        have s6 := sr
        clear sr
        have c9 := (msgS (St.pick 2 s6)).2
        rw [HF.out.2.2.2.1, HF.out.2.2.2.2.1, HF.out.2.2.2.2.2] at c9
        go_wp2_with fail
        go_loopw [44] (fun ii wr => ∃ (i : Nat) (a : Option Addr) (c : Nat), i ≤ en ∧ ii = .int .i64 i ∧ St W wr (row B 0 ((m.bare2.withM am mn cm).withE a i c).cells :: OwnS 9 a i c (enC (es.take i)) :: OwnS 3 am mn cm (mkC ks) :: row T 0 m.cells :: row E 0 zeroM.cells :: R)) (fun ii _ => en - (intOf ii).toNat)
        case atStart => exact ⟨0, none, 0, Nat.zero_le _, rfl, St.pick 1 (OwnS.none0 (sz := 9) s6)⟩
        case round =>
          obtain ⟨i, a, c, hi, rfl, sr⟩ := hrel
          by_cases hlt : i < en
          · have hi2 : (i : Int) < (en : Int) := by omega
            have rd := HPE.out _ (sr.dropN 5)
            obtain ⟨g3, o3, rfl⟩ := rd.addr (by omega)
            have hiA : i < es.length := by rw [HNl.out.2]; exact hlt
            have ci := renLd rd hiA
            have hsn := enC_snoc2 hiA
            obtain ⟨q, hq⟩ : ∃ q, es[i] = q := ⟨_, rfl⟩
            rw [hq] at ci hsn
            have HS := hid hsn
            have hb1 : (i + 1) * 88 ≤ 140737488355328 := by have := HNE.out; omega
            have hm1 : i + 1 ≤ maxLen := by have := HNE.out; unfold maxLen; omega
            clear hq hsn rd hiA
            go_wp2_with (first
              | (refine wpl_allocA rfl rfl zero_enTo sr ?_; rintro P w7 s7)
              | (refine wpl_storeA (vs := q.cells) rfl (.tmp 7) (.tmp 47) (by rfl) agg_ren (by rfl) (by rfl) rfl (en_one q) s7 rfl ?_; rintro w8 s8))
            simp only [Act.put, List.setIfInBounds_toArray, List.set_cons_succ, List.set_cons_zero]
            have u := s8.drew
            have lP : ∀ (w' : World) (R' : List HP), St W w' (row P 0 q.cells :: R') → (loadG 43 (.pointer (some ⟨P, 0, none⟩))).run Tryz.prog w' = .ok (.agg q.cells.toArray) w' := fun w' R' s => run_loadG (o := 0) agg_ren rfl s.rowAll
            have l1 := lP _ _ u
            obtain ⟨⟨e8, e9⟩, _⟩ := msgP (St.pick 1 u)
            have LP := hid lP
            clear lP
            go_region_law (first
              | (go_simp; go_at_call 23; refine enOf_c u ?_; rintro wA sA; have l2 := LP.out _ _ sA; obtain ⟨⟨p8, p9⟩, _⟩ := msgP (St.pick 1 sA)
                 have sB := sA.alloc q.cells.toArray 67
                 obtain ⟨⟨r8, r9⟩, _⟩ := msgP (St.pick 2 sB))
              | (refine step_append_st rfl (.tmp 49) (.tmp 52) rfl Tryz.elem54 rfl rfl (St.pick 3 sB) (St.rowRd (sz := 9) (n := 1) sB rfl (by decide) (en_one q)) hb1 hm1 ?_; rintro a9 c9 w9 s9; obtain ⟨_, x8, x9, y8, y9⟩ := msgP (St.pick 3 s9)))
            all_goals
              have t := (St.pick 3 s9).rowSet (i := 11) (by simp [MsgV.cells]) (.slice a9 (i + 1) c9)
              rw [Nat.zero_add] at t
              have t2 : St W _ (row B 0 ((m.bare2.withM am mn cm).withE a9 (i + 1) c9).cells :: _) := t
              go_wp2_with fail
              go_roundw
              case rel => exact ⟨i + 1, a9, c9, by omega, by go_num, by rw [HS.out]; exact St.drop (St.pick 2 (St.drop (St.pick 2 t2)))⟩
              case measure => simp [intOf]; omega
          · have hie : en = i := by omega
            subst hie
            rw [List.take_of_length_le (by rw [HNl.out.2]; exact Nat.le_refl _)] at sr
            have f58 := lg58 sr
            go_wp2_with (refine wpl_storeA (vs := ((m.bare2.withM am mn cm).withE a en c).cells) rfl (.tmp 2) (.tmp 56) (by rfl) agg58 (by rfl) (by rfl) rfl (msg_one _) (St.pick 4 sr) rfl ?_; rintro wZ sZ)
            have hL := run_loadA agg58 rfl sZ.rowAll
            exact bodyPost_ret (v := .agg ((m.bare2.withM am mn cm).withE a en c).cells.toArray) (by simp [results, Tryz.results14, asAddr, hL, Act.put]) rfl (HK.out am cm a c _ (St.pick 1 (St.drop (St.pick 2 (sZ.dropN 2)))))

end

end Go.Proofs.YtojfjbbggpfijaaGreatDoor

/- The program's message as the document's. Printed by conv.py. -/
namespace Go.Proofs.YtojfjbbggpfijaaGreatDoor
open Go.RowKit Go.Qd

theorem aggRM : AggT Tryz.prog 50 12 := ⟨⟨_, Tryz.underlying50, rfl⟩, by kernel_rfl⟩
theorem zeroRM (w : World) : (zeroValue 50).run Tryz.prog w = .ok (.agg zeroM.cells.toArray) w := by kernel_rfl
theorem lgRM {W w : World} {R : List HP} {B : Nat} {m : MsgV} (s : St W w (row B 0 m.cells :: R)) : (loadG 50 (.pointer (some ⟨B, 0, none⟩))).run Tryz.prog w = .ok (.agg m.cells.toArray) w := run_loadG aggRM rfl s.rowAll
theorem Tryz.elem47 : ElemT Tryz.prog 47 46 3 32 := ElemT.mk' Tryz.underlying47 (by kernel_rfl : (Tryz.prog.info? 46).map (fun i => (i.zero, i.size, i.bytes)) = some (some (.agg #[.int .i64 0, .int .i64 0, .string ByteArray.empty]), 3, 32)) rfl (by decide) (by simp [Value.cells, Value.oneCell'])
theorem Tryz.elem48 : ElemT Tryz.prog 48 43 9 88 := ElemT.mk' Tryz.underlying48 (by kernel_rfl : (Tryz.prog.info? 43).map (fun i => (i.zero, i.size, i.bytes)) = some (some (.agg #[.string ByteArray.empty, .string ByteArray.empty, .bool false, .int .i64 0, .int .i64 0, .int .i64 0, .int .i64 0, .int .i64 0, .int .i64 0]), 9, 88)) rfl (by decide) (by simp [Value.cells, Value.oneCell'])
def allocGT (t : TypeId) : Sem Value := Instr.alloc t true (.tuple #[])
theorem execOp_allocMT (ρ : Operand → Value) (dst : Option Tmp) (ty : TypeId) (pos : String) (after : Array Edge) (guard : Option (Nat × Bool)) :
    execOp ρ { dst, op := .alloc 50, type := ty, pos, after, guard } = (do pure (.value (← allocGT 50))) := rfl
theorem run_allocMT (w : World) : (allocGT 50).run Tryz.prog w = .ok (.pointer (some ⟨w.heap.size, 0, none⟩)) (w.alloc (.cells zeroM.cells.toArray 50)) := by
  unfold allocGT
  simp [Instr.alloc, newVar, newRow, Value.cells, Result.andThen]
  rfl
theorem execOp_storeMT (ρ : Operand → Value) (dst : Option Tmp) (a x : Operand) (ty : TypeId) (pos : String) (after : Array Edge) (guard : Option (Nat × Bool)) :
    execOp ρ { dst, op := .store 50 a x, type := ty, pos, after, guard } = (do storeG 50 (ρ a) (ρ x); pure .skip) := rfl
def b8GT (a b c d e f g h : Value) : Sem Value := Instr.build 50 #[(0, a), (1, b), (2, c), (3, d), (4, e), (5, f), (6, g), (7, h)]
theorem execOp_b8T (ρ : Operand → Value) (dst : Option Tmp) (a b c d e f g h : Operand) (ty : TypeId) (pos : String) (after : Array Edge) (guard : Option (Nat × Bool)) :
    execOp ρ { dst, op := .build 50 #[(0, a), (1, b), (2, c), (3, d), (4, e), (5, f), (6, g), (7, h)], type := ty, pos, after, guard } = (do pure (.value (← b8GT (ρ a) (ρ b) (ρ c) (ρ d) (ρ e) (ρ f) (ρ g) (ρ h)))) := by simp [execOp, b8GT]
theorem run_b8T (m : MsgV) (w : World) : (b8GT (.int .i64 m.kind) (.int .i64 m.peer) (.int .i64 m.hops) (.bool m.high) (.slice m.pa m.pn m.pc) (.int .i64 m.number) (.int .u64 m.sum) (.agg m.mark.cells.toArray)).run Tryz.prog w =
    .ok (.agg m.bare2.cells.toArray) w := by kernel_rfl
def bsMGT (x : Value) : Sem Value := Instr.buildSlice 47 1 #[(0, x)]
def bsEWGT (x : Value) : Sem Value := Instr.buildSlice 48 1 #[(0, x)]
theorem execOp_bsMT (ρ : Operand → Value) (dst : Option Tmp) (a : Operand) (ty : TypeId) (pos : String) (after : Array Edge) (guard : Option (Nat × Bool)) :
    execOp ρ { dst, op := .buildSlice 47 1 #[(0, a)], type := ty, pos, after, guard } = (do pure (.value (← bsMGT (ρ a)))) := by simp [execOp, bsMGT]
theorem execOp_bsEWT (ρ : Operand → Value) (dst : Option Tmp) (a : Operand) (ty : TypeId) (pos : String) (after : Array Edge) (guard : Option (Nat × Bool)) :
    execOp ρ { dst, op := .buildSlice 48 1 #[(0, a)], type := ty, pos, after, guard } = (do pure (.value (← bsEWGT (ρ a)))) := by simp [execOp, bsEWGT]
theorem run_bsMT (x : MkV) (w : World) : (bsMGT (.agg x.cells.toArray)).run Tryz.prog w = .ok (.slice (some ⟨w.heap.size, 0, none⟩) 1 1) (w.alloc (.cells x.cells.toArray 46)) := by kernel_rfl
theorem run_bsEWT (x : EnV) (w : World) : (bsEWGT (.agg x.cells.toArray)).run Tryz.prog w = .ok (.slice (some ⟨w.heap.size, 0, none⟩) 1 1) (w.alloc (.cells x.cells.toArray 43)) := by kernel_rfl
theorem rmkLdT {w : World} {b o n c i : Nat} {l : List MkV} (rd : RdS w 3 (some ⟨b, o, none⟩) n c (mkC l)) (hi : i < l.length) :
    (loadG 59 (.pointer (some ⟨b, o + i * 3, none⟩))).run Tryz.prog w = .ok (.agg l[i].cells.toArray) w := run_loadG agg_mk rfl (fun _ _ hu => rd.at2 (mkC_get hi hu))
theorem renLdT {w : World} {b o n c i : Nat} {l : List EnV} (rd : RdS w 9 (some ⟨b, o, none⟩) n c (enC l)) (hi : i < l.length) :
    (loadG 67 (.pointer (some ⟨b, o + i * 9, none⟩))).run Tryz.prog w = .ok (.agg l[i].cells.toArray) w := run_loadG agg_en rfl (fun _ _ hu => rd.at2 (enC_get hi hu))
attribute [local go_sem ↓] execOp_bsMT execOp_bsEWT
attribute [local go_sem] run_bsMT run_bsEWT
attribute [local go_sem ↓] execOp_ldAny execOp_allocMT execOp_storeMT execOp_b8T
attribute [local go_sem] run_allocMT run_b8T

section
variable {W w : World} {R : List HP} {post : Ending → World → Prop} {m : MsgV} {ks : List MkV} {es : List EnV}

theorem msgRT {T : Nat} (s : St W w (row T 0 m.cells :: R)) :
    (loadG 3 (.pointer (some ⟨T, 0, none⟩))).run Tryz.prog w = .ok (.int .i64 m.kind) w ∧ (loadG 3 (.pointer (some ⟨T, 1, none⟩))).run Tryz.prog w = .ok (.int .i64 m.peer) w ∧
    (loadG 3 (.pointer (some ⟨T, 2, none⟩))).run Tryz.prog w = .ok (.int .i64 m.hops) w ∧ (loadG 4 (.pointer (some ⟨T, 3, none⟩))).run Tryz.prog w = .ok (.bool m.high) w ∧
    (loadG 24 (.pointer (some ⟨T, 4, none⟩))).run Tryz.prog w = .ok (.slice m.pa m.pn m.pc) w ∧ (loadG 3 (.pointer (some ⟨T, 5, none⟩))).run Tryz.prog w = .ok (.int .i64 m.number) w ∧
    (loadG 44 (.pointer (some ⟨T, 6, none⟩))).run Tryz.prog w = .ok (.int .u64 m.sum) w ∧ (loadG 59 (.pointer (some ⟨T, 7, none⟩))).run Tryz.prog w = .ok (.agg #[.int .i64 m.mc, .int .i64 m.ms, .string m.key]) w := by
  obtain ⟨c0, c1, c2, c3, c4, c5, c6, _⟩ := boxM s
  refine ⟨run_ldP (by kernel_rfl) c0, run_ldP (by kernel_rfl) c1, run_ldP (by kernel_rfl) c2, run_ldP (by kernel_rfl) c3, run_ldP (by kernel_rfl) c4, run_ldP (by kernel_rfl) c5, run_ldP (by kernel_rfl) c6, ?_⟩
  exact run_loadG (o := 0 + 7) agg_mk (vs := [.int .i64 m.mc, .int .i64 m.ms, .string m.key]) rfl (St.rowPart s 7 (xs := [.int .i64 m.mc, .int .i64 m.ms, .string m.key]) (ys := [.slice m.ma m.mn m.mq, .slice m.ea m.en m.eq]) rfl)
theorem msgST {T : Nat} (s : St W w (row T 0 m.cells :: R)) :
    (loadG 60 (.pointer (some ⟨T, 10, none⟩))).run Tryz.prog w = .ok (.slice m.ma m.mn m.mq) w ∧ (loadG 54 (.pointer (some ⟨T, 11, none⟩))).run Tryz.prog w = .ok (.slice m.ea m.en m.eq) w := by
  obtain ⟨_, _, _, _, _, _, _, _, _, _, c8, c9⟩ := boxM s
  exact ⟨run_ldP (by kernel_rfl) c8, run_ldP (by kernel_rfl) c9⟩
theorem msgPT {T : Nat} (s : St W w (row T 0 m.cells :: R)) :
    ((loadG 47 (.pointer (some ⟨T, 10, none⟩))).run Tryz.prog w = .ok (.slice m.ma m.mn m.mq) w ∧ (loadG 48 (.pointer (some ⟨T, 11, none⟩))).run Tryz.prog w = .ok (.slice m.ea m.en m.eq) w) ∧
    w.cell? ⟨T, 10, none⟩ = some (.slice m.ma m.mn m.mq) ∧ w.cell? ⟨T, 11, none⟩ = some (.slice m.ea m.en m.eq) ∧ w.frozen? ⟨T, 10, none⟩ = false ∧ w.frozen? ⟨T, 11, none⟩ = false := by
  obtain ⟨_, _, _, _, _, _, _, _, _, _, c8, c9⟩ := boxM s
  have f8 := s.rowFree (i := 10) (by simp [MsgV.cells])
  have f9 := s.rowFree (i := 11) (by simp [MsgV.cells])
  rw [Nat.zero_add] at f8 f9
  exact ⟨⟨run_ldP (by kernel_rfl) c8, run_ldP (by kernel_rfl) c9⟩, c8, c9, f8, f9⟩
theorem room_newT (w : World) : roomG (w.alloc (.cells zeroM.cells.toArray 50)) w.heap.size 0 12 := St.roomG ((St.init w).alloc zeroM.cells.toArray 50) rfl

set_option maxRecDepth 100000 in
set_option maxHeartbeats 8000000 in
theorem msgTo_c (st : St W w R) (hpM : Rds W R 3 m.ma m.mn m.mq (mkC ks)) (hnM : m.mn ≤ 1000) (hpE : Rds W R 9 m.ea m.en m.eq (enC es)) (hnE : m.en ≤ 1000)
    (K : ∀ ma mq ea eq w', St W w' (OwnS 3 ma m.mn mq (mkC ks) :: OwnS 9 ea m.en eq (enC es) :: R) → post (.returned (.agg ((m.withM ma m.mn mq).withE ea m.en eq).cells.toArray)) w') :
    Calls Tryz.prog 26 #[.agg m.cells.toArray] w post := by
  have HK := hid K; clear K
  obtain ⟨ma, hma⟩ : ∃ x, m.ma = x := ⟨_, rfl⟩
  obtain ⟨mn, hmn⟩ : ∃ x, m.mn = x := ⟨_, rfl⟩
  obtain ⟨mq, hmq⟩ : ∃ x, m.mq = x := ⟨_, rfl⟩
  obtain ⟨ea, hea⟩ : ∃ x, m.ea = x := ⟨_, rfl⟩
  obtain ⟨en, hen⟩ : ∃ x, m.en = x := ⟨_, rfl⟩
  obtain ⟨eq, heq⟩ : ∃ x, m.eq = x := ⟨_, rfl⟩
  rw [hma, hmn, hmq] at hpM
  rw [hea, hen, heq] at hpE
  rw [hmn] at hnM
  rw [hen] at hnE
  rw [hmn, hen] at HK
  have HF := hid (And.intro hma (And.intro hmn (And.intro hmq (And.intro hea (And.intro hen heq)))))
  clear hma hmn hmq hea hen heq
  have HPM := hid hpM; have HPE := hid hpE
  have HNl : Hid (ks.length = mn ∧ es.length = en) := hid ⟨mkC_ln (hpM w st), enC_ln (hpE w st)⟩
  have HNM := hid hnM; have HNE := hid hnE
  clear hpM hpE hnM hnE
  go_enter Tryz.func26, Tryz.ntmps26
  go_wp2_with (first
    | (refine wpl_boxA (vs := m.cells) rfl (.tmp 0) rfl rfl st ?_; rintro T w1 s1)
    | (refine wpl_allocA rfl rfl zeroRM s1 ?_; rintro E w2 s2))
  simp only [Act.put, List.setIfInBounds_toArray, List.set_cons_succ, List.set_cons_zero]
  have u : St W w2.drew (row T 0 m.cells :: row E 0 zeroM.cells :: R) := (St.pick 1 s2).drew
  go_cut [3] (fun p wx => ∃ B, p = .pointer (some ⟨B, 0, none⟩) ∧ St W wx (row B 0 m.bare2.cells :: row T 0 m.cells :: row E 0 zeroM.cells :: R))
  case first =>
    have gA := msgRT u
    have u2 := ((St.pick 1 s2).alloc zeroM.cells.toArray 50).drew
    have gB := msgRT (St.pick 1 u2)
    have HR := hid room_newT
    have hone : oneG m.bare2.cells 12 := ⟨rfl, msg_one _⟩
    have agg12 := aggRM
    have rA := run_storeG agg12 (b := w2.heap.size) (o := 0) (u2.roomG rfl) hone
    go_region_held3 (fun w' => (loadG 3 (.pointer (some ⟨T, 0, none⟩))).run Tryz.prog w' = .ok (.int .i64 m.kind) w' ∧ (loadG 3 (.pointer (some ⟨T, 1, none⟩))).run Tryz.prog w' = .ok (.int .i64 m.peer) w' ∧
      (loadG 3 (.pointer (some ⟨T, 2, none⟩))).run Tryz.prog w' = .ok (.int .i64 m.hops) w' ∧ (loadG 4 (.pointer (some ⟨T, 3, none⟩))).run Tryz.prog w' = .ok (.bool m.high) w' ∧
      (loadG 24 (.pointer (some ⟨T, 4, none⟩))).run Tryz.prog w' = .ok (.slice m.pa m.pn m.pc) w' ∧ (loadG 3 (.pointer (some ⟨T, 5, none⟩))).run Tryz.prog w' = .ok (.int .i64 m.number) w' ∧
      (loadG 44 (.pointer (some ⟨T, 6, none⟩))).run Tryz.prog w' = .ok (.int .u64 m.sum) w' ∧ (loadG 59 (.pointer (some ⟨T, 7, none⟩))).run Tryz.prog w' = .ok (.agg #[.int .i64 m.mc, .int .i64 m.ms, .string m.key]) w')
      (first
        | with_reducible exact gE
        | with_reducible exact gD
        | with_reducible exact gC
        | with_reducible exact gB
        | with_reducible exact gA)
      (first
        | (go_at_call 65; first
            | (refine mkTo_c (m := m.mark) u ?_; rintro w5 s5; have gC := msgRT s5; have u5 := s5.alloc zeroM.cells.toArray 50; have gD := msgRT (St.pick 1 u5); have rB := run_storeG agg12 (b := w5.heap.size) (o := 0) (u5.roomG rfl) hone; have u6 := u5.setAll (vs := m.bare2.cells) rfl; have gE := msgRT (St.pick 1 u6))
            | (refine mkTo_c (m := m.mark) u2 ?_; rintro w5 s5; have gC := msgRT (St.pick 1 s5); have rB := run_storeG agg12 (b := w2.heap.size) (o := 0) (s5.roomG rfl) hone; have u6 := s5.setAll (vs := m.bare2.cells) rfl; have gE := msgRT (St.pick 1 u6))))
    all_goals
      go_wp2_with fail
      go_meet
      case rel => exact ⟨_, rfl, u6⟩
  case rest =>
    obtain ⟨B, rfl, s6⟩ := hcut
    have c8 := (msgST (St.pick 1 s6)).1
    rw [HF.out.1, HF.out.2.1, HF.out.2.2.1] at c8
    go_wp2_with fail
    go_loopw [29] (fun ii wr => ∃ (i : Nat) (a : Option Addr) (c : Nat), i ≤ mn ∧ ii = .int .i64 i ∧ St W wr (row B 0 (m.bare2.withM a i c).cells :: OwnS 3 a i c (mkC (ks.take i)) :: row T 0 m.cells :: row E 0 zeroM.cells :: R)) (fun ii _ => mn - (intOf ii).toNat)
    case atStart => exact ⟨0, none, 0, Nat.zero_le _, rfl, St.pick 1 (OwnS.none0 (sz := 3) s6)⟩
    case round =>
      obtain ⟨i, a, c, hi, rfl, sr⟩ := hrel
      by_cases hlt : i < mn
      · have hi2 : (i : Int) < (mn : Int) := by omega
        have rd := HPM.out _ (sr.dropN 4)
        obtain ⟨g3, o3, rfl⟩ := rd.addr (by omega)
        have hiA : i < ks.length := by rw [HNl.out.1]; exact hlt
        have ci := rmkLdT rd hiA
        have hsn := mkC_snoc2 hiA
        obtain ⟨q, hq⟩ : ∃ q, ks[i] = q := ⟨_, rfl⟩
        rw [hq] at ci hsn
        have HS := hid hsn
        have hb1 : (i + 1) * 32 ≤ 140737488355328 := by have := HNM.out; omega
        have hm1 : i + 1 ≤ maxLen := by have := HNM.out; unfold maxLen; omega
        clear hq hsn rd hiA
        go_wp2_with (first
          | (refine wpl_allocA rfl rfl zero_mkOf sr ?_; rintro P w7 s7)
          | (refine wpl_storeA (vs := q.cells) rfl (.tmp 5) (.tmp 32) (by rfl) agg_mk (by rfl) (by rfl) rfl (mk_one q) s7 rfl ?_; rintro w8 s8))
        simp only [Act.put, List.setIfInBounds_toArray, List.set_cons_succ, List.set_cons_zero]
        have u := s8.drew
        have lP : ∀ (w' : World) (R' : List HP), St W w' (row P 0 q.cells :: R') → (loadG 59 (.pointer (some ⟨P, 0, none⟩))).run Tryz.prog w' = .ok (.agg q.cells.toArray) w' := fun w' R' s => run_loadG (o := 0) agg_mk rfl s.rowAll
        have l1 := lP _ _ u
        obtain ⟨⟨e8, e9⟩, _⟩ := msgPT (St.pick 1 u)
        have LP := hid lP
        clear lP
        go_region_law (first
          | (go_simp; go_at_call 65; refine mkTo_c u ?_; rintro wA sA; have l2 := LP.out _ _ sA; obtain ⟨⟨p8, p9⟩, _⟩ := msgPT (St.pick 1 sA)
             have sB := sA.alloc q.cells.toArray 46
             obtain ⟨⟨r8, r9⟩, _⟩ := msgPT (St.pick 2 sB))
          | (refine step_append_st rfl (.tmp 34) (.tmp 37) rfl Tryz.elem47 rfl rfl (St.pick 3 sB) (St.rowRd (sz := 3) (n := 1) sB rfl (by decide) (mk_one q)) hb1 hm1 ?_; rintro a9 c9 w9 s9; obtain ⟨_, x8, x9, y8, y9⟩ := msgPT (St.pick 3 s9)))
        all_goals
          have t := (St.pick 3 s9).rowSet (i := 10) (by simp [MsgV.cells]) (.slice a9 (i + 1) c9)
          rw [Nat.zero_add] at t
          have t2 : St W _ (row B 0 (m.bare2.withM a9 (i + 1) c9).cells :: _) := t
          go_wp2_with fail
          go_roundw
          case rel => exact ⟨i + 1, a9, c9, by omega, by go_num, by rw [HS.out]; exact St.drop (St.pick 2 (St.drop (St.pick 2 t2)))⟩
          case measure => simp [intOf]; omega
      · have hie : mn = i := by omega
        subst hie
        rw [List.take_of_length_le (by rw [HNl.out.1]; exact Nat.le_refl _)] at sr
        obtain ⟨am, rfl⟩ : ∃ x, x = a := ⟨a, rfl⟩
        obtain ⟨cm, rfl⟩ : ∃ x, x = c := ⟨c, rfl⟩
        have s6 := sr
        clear sr
        have c9 := (msgST (St.pick 2 s6)).2
        rw [HF.out.2.2.2.1, HF.out.2.2.2.2.1, HF.out.2.2.2.2.2] at c9
        go_wp2_with fail
        go_loopw [44] (fun ii wr => ∃ (i : Nat) (a : Option Addr) (c : Nat), i ≤ en ∧ ii = .int .i64 i ∧ St W wr (row B 0 ((m.bare2.withM am mn cm).withE a i c).cells :: OwnS 9 a i c (enC (es.take i)) :: OwnS 3 am mn cm (mkC ks) :: row T 0 m.cells :: row E 0 zeroM.cells :: R)) (fun ii _ => en - (intOf ii).toNat)
        case atStart => exact ⟨0, none, 0, Nat.zero_le _, rfl, St.pick 1 (OwnS.none0 (sz := 9) s6)⟩
        case round =>
          obtain ⟨i, a, c, hi, rfl, sr⟩ := hrel
          by_cases hlt : i < en
          · have hi2 : (i : Int) < (en : Int) := by omega
            have rd := HPE.out _ (sr.dropN 5)
            obtain ⟨g3, o3, rfl⟩ := rd.addr (by omega)
            have hiA : i < es.length := by rw [HNl.out.2]; exact hlt
            have ci := renLdT rd hiA
            have hsn := enC_snoc2 hiA
            obtain ⟨q, hq⟩ : ∃ q, es[i] = q := ⟨_, rfl⟩
            rw [hq] at ci hsn
            have HS := hid hsn
            have hb1 : (i + 1) * 88 ≤ 140737488355328 := by have := HNE.out; omega
            have hm1 : i + 1 ≤ maxLen := by have := HNE.out; unfold maxLen; omega
            clear hq hsn rd hiA
            go_wp2_with (first
              | (refine wpl_allocA rfl rfl zero_enOf sr ?_; rintro P w7 s7)
              | (refine wpl_storeA (vs := q.cells) rfl (.tmp 7) (.tmp 47) (by rfl) agg_en (by rfl) (by rfl) rfl (en_one q) s7 rfl ?_; rintro w8 s8))
            simp only [Act.put, List.setIfInBounds_toArray, List.set_cons_succ, List.set_cons_zero]
            have u := s8.drew
            have lP : ∀ (w' : World) (R' : List HP), St W w' (row P 0 q.cells :: R') → (loadG 67 (.pointer (some ⟨P, 0, none⟩))).run Tryz.prog w' = .ok (.agg q.cells.toArray) w' := fun w' R' s => run_loadG (o := 0) agg_en rfl s.rowAll
            have l1 := lP _ _ u
            obtain ⟨⟨e8, e9⟩, _⟩ := msgPT (St.pick 1 u)
            have LP := hid lP
            clear lP
            go_region_law (first
              | (go_simp; go_at_call 17; refine enTo_c u ?_; rintro wA sA; have l2 := LP.out _ _ sA; obtain ⟨⟨p8, p9⟩, _⟩ := msgPT (St.pick 1 sA)
                 have sB := sA.alloc q.cells.toArray 43
                 obtain ⟨⟨r8, r9⟩, _⟩ := msgPT (St.pick 2 sB))
              | (refine step_append_st rfl (.tmp 49) (.tmp 52) rfl Tryz.elem48 rfl rfl (St.pick 3 sB) (St.rowRd (sz := 9) (n := 1) sB rfl (by decide) (en_one q)) hb1 hm1 ?_; rintro a9 c9 w9 s9; obtain ⟨_, x8, x9, y8, y9⟩ := msgPT (St.pick 3 s9)))
            all_goals
              have t := (St.pick 3 s9).rowSet (i := 11) (by simp [MsgV.cells]) (.slice a9 (i + 1) c9)
              rw [Nat.zero_add] at t
              have t2 : St W _ (row B 0 ((m.bare2.withM am mn cm).withE a9 (i + 1) c9).cells :: _) := t
              go_wp2_with fail
              go_roundw
              case rel => exact ⟨i + 1, a9, c9, by omega, by go_num, by rw [HS.out]; exact St.drop (St.pick 2 (St.drop (St.pick 2 t2)))⟩
              case measure => simp [intOf]; omega
          · have hie : en = i := by omega
            subst hie
            rw [List.take_of_length_le (by rw [HNl.out.2]; exact Nat.le_refl _)] at sr
            have f58 := lgRM sr
            go_wp2_with (refine wpl_storeA (vs := ((m.bare2.withM am mn cm).withE a en c).cells) rfl (.tmp 2) (.tmp 56) (by rfl) aggRM (by rfl) (by rfl) rfl (msg_one _) (St.pick 4 sr) rfl ?_; rintro wZ sZ)
            have hL := run_loadA aggRM rfl sZ.rowAll
            exact bodyPost_ret (v := .agg ((m.bare2.withM am mn cm).withE a en c).cells.toArray) (by simp [results, Tryz.results26, asAddr, hL, Act.put]) rfl (HK.out am cm a c _ (St.pick 1 (St.drop (St.pick 2 (sZ.dropN 2)))))

end

end Go.Proofs.YtojfjbbggpfijaaGreatDoor
