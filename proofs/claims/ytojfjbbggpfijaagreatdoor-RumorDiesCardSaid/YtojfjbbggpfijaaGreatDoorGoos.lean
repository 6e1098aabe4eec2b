/- Goos: several texts, joined. The document's Site, Good, Later, Check; in, Has, Many. Printed by mkRGoodA.py. -/
import Derived.Test.YtojfjbbggpfijaaGreatDoorMarks
import Derived.Test.YtojfjbbggpfijaaGreatDoorREnt
import Derived.Test.YtojfjbbggpfijaaGreatDoorMsgs
import Derived.Test.YtojfjbbggpfijaaGreatDoorSets
import Derived.Test.YtojfjbbggpfijaaGreatDoorLawE
namespace Go.Proofs.YtojfjbbggpfijaaGreatDoor
open Go.RowKit Go.Qd

def hasL (f : Nat) : List Int := if f = 0 then [2, 7] else if f = 1 then [2, 7] else if f = 2 then [3] else if f = 3 then [7, 8] else if f = 4 then [16, 17, 18, 19] else if f = 5 then [16, 17, 19] else if f = 6 then [18, 19] else if f = 7 then [11, 12, 15] else [10, 14, 15, 16, 17, 18, 19]
def hasB (k : Int) (f : Nat) : Bool := memB (hasL f) k

section
variable {W w : World} {R : List HP} {post : Ending → World → Prop}

theorem rin_c {n : Int} {ao : Option Addr} {m c : Nat} {l : List Int} (rd : RdS w 1 ao m c (ivs l)) (K : post (.returned (.bool (memB l n))) w) : Calls Tryz.prog 156 #[.int .i64 n, .slice ao m c] w post := by
  have HK := hid K; clear K
  have hz : l.length = m := by have := rd.len; rw [ivs_length] at this; omega
  have HZ := hid hz
  have hbig := rd.big
  clear hz
  go_enter Tryz.func156, Tryz.ntmps156
  go_wp2_with fail
  go_loopw [5] (fun ii wr => ∃ i : Nat, i ≤ m ∧ ii = .int .i64 i ∧ n ∉ l.take i ∧ wr = w) (fun ii _ => m - (intOf ii).toNat)
  case atStart => exact ⟨0, Nat.zero_le _, rfl, by simp, rfl⟩
  case round =>
    obtain ⟨i, hi, rfl, hm, rfl⟩ := hrel
    by_cases hlt : i < m
    · obtain ⟨g3, o3, rfl⟩ := rd.addr (by omega)
      have hiA : i < l.length := by rw [HZ.out]; exact hlt
      have ci := rd.at (ivs_get hiA)
      have hi2 : (i : Int) < (m : Int) := by omega
      have hme := List.getElem_mem hiA
      have HN := hid (fun (h2 : l[i] ≠ n) => (show n ∉ l.take (i + 1) from by rw [List.take_succ_eq_append_getElem hiA]; intro g; rcases List.mem_append.1 g with g | g; exact hm g; exact h2 (List.mem_singleton.1 g).symm))
      obtain ⟨q, hq⟩ : ∃ q, l[i] = q := ⟨_, rfl⟩
      rw [hq] at ci hme
      have HQ := hid hq
      clear hq hm rd
      by_cases hqx : q = n
      · subst hqx
        rw [memB_yes hme] at HK
        go_wp2_with fail
        exact HK.out
      · have hb : (q == n) = false := by simp [hqx]
        have HQX := hid hqx
        clear hqx
        go_wp2_with fail
        go_roundw
        case rel => exact ⟨i + 1, by omega, by go_num, HN.out (by rw [HQ.out]; exact HQX.out), by trivial⟩
        case measure => simp [intOf]; omega
    · have hie : i = m := by omega
      subst hie
      rw [List.take_of_length_le (by rw [HZ.out]; exact Nat.le_refl _)] at hm
      rw [memB_no hm] at HK
      clear hm
      go_wp2_with fail
      exact HK.out

set_option maxRecDepth 100000 in
set_option maxHeartbeats 2000000 in
theorem rhas_c {k : Int} {f : Nat} (hf : f ≤ 8) (st : St W w R) (K : ∀ w', St W w' R → post (.returned (.bool (hasB k f))) w') : Calls Tryz.prog 108 #[.int .i64 k, .int .i64 f] w post := by
  have hcase : f = 0 ∨ f = 1 ∨ f = 2 ∨ f = 3 ∨ f = 4 ∨ f = 5 ∨ f = 6 ∨ f = 7 ∨ f = 8 := by omega
  clear hf
  rcases hcase with rfl | rfl | rfl | rfl | rfl | rfl | rfl | rfl | rfl
  · have s1 := st.alloc #[.int .i64 2, .int .i64 7] 3
    have r1 : RdS _ 1 (some ⟨w.heap.size, 0, none⟩) 2 2 (ivs [2, 7]) := St.rowRd (sz := 1) (n := 2) s1 rfl (by decide) (ivs_one [2, 7])
    rw [show ((0 : Nat) : Int) = 0 from rfl]
    have e : hasB k 0 = memB [2, 7] k := rfl
    rw [e] at K
    have HK := hid K; clear K e
    go_enter Tryz.func108, Tryz.ntmps108
    go_wp2_with (go_at_call 156; refine rin_c r1 ?_)
    exact HK.out _ s1.drop
  · have s1 := st.alloc #[.int .i64 2, .int .i64 7] 3
    have r1 : RdS _ 1 (some ⟨w.heap.size, 0, none⟩) 2 2 (ivs [2, 7]) := St.rowRd (sz := 1) (n := 2) s1 rfl (by decide) (ivs_one [2, 7])
    rw [show ((1 : Nat) : Int) = 1 from rfl]
    have e : hasB k 1 = memB [2, 7] k := rfl
    rw [e] at K
    have HK := hid K; clear K e
    go_enter Tryz.func108, Tryz.ntmps108
    go_wp2_with (go_at_call 156; refine rin_c r1 ?_)
    exact HK.out _ s1.drop
  · have e : hasB k 2 = (k == 3) := by unfold hasB hasL memB; simp; rfl
    rw [show ((2 : Nat) : Int) = 2 from rfl]
    rw [e] at K
    have HK := hid K; clear K e
    obtain ⟨z, hz⟩ : ∃ z, (k == 3) = z := ⟨_, rfl⟩
    rw [hz] at HK
    cases z with
    | true =>
      go_enter Tryz.func108, Tryz.ntmps108
      go_wp2
      exact HK.out _ st
    | false =>
      go_enter Tryz.func108, Tryz.ntmps108
      go_wp2
      exact HK.out _ st
  · have s1 := st.alloc #[.int .i64 7, .int .i64 8] 3
    have r1 : RdS _ 1 (some ⟨w.heap.size, 0, none⟩) 2 2 (ivs [7, 8]) := St.rowRd (sz := 1) (n := 2) s1 rfl (by decide) (ivs_one [7, 8])
    rw [show ((3 : Nat) : Int) = 3 from rfl]
    have e : hasB k 3 = memB [7, 8] k := rfl
    rw [e] at K
    have HK := hid K; clear K e
    go_enter Tryz.func108, Tryz.ntmps108
    go_wp2_with (go_at_call 156; refine rin_c r1 ?_)
    exact HK.out _ s1.drop
  · have s1 := st.alloc #[.int .i64 16, .int .i64 17, .int .i64 18, .int .i64 19] 3
    have r1 : RdS _ 1 (some ⟨w.heap.size, 0, none⟩) 4 4 (ivs [16, 17, 18, 19]) := St.rowRd (sz := 1) (n := 4) s1 rfl (by decide) (ivs_one [16, 17, 18, 19])
    rw [show ((4 : Nat) : Int) = 4 from rfl]
    have e : hasB k 4 = memB [16, 17, 18, 19] k := rfl
    rw [e] at K
    have HK := hid K; clear K e
    go_enter Tryz.func108, Tryz.ntmps108
    go_wp2_with (go_at_call 156; refine rin_c r1 ?_)
    exact HK.out _ s1.drop
  · have s1 := st.alloc #[.int .i64 16, .int .i64 17, .int .i64 19] 3
    have r1 : RdS _ 1 (some ⟨w.heap.size, 0, none⟩) 3 3 (ivs [16, 17, 19]) := St.rowRd (sz := 1) (n := 3) s1 rfl (by decide) (ivs_one [16, 17, 19])
    rw [show ((5 : Nat) : Int) = 5 from rfl]
    have e : hasB k 5 = memB [16, 17, 19] k := rfl
    rw [e] at K
    have HK := hid K; clear K e
    go_enter Tryz.func108, Tryz.ntmps108
    go_wp2_with (go_at_call 156; refine rin_c r1 ?_)
    exact HK.out _ s1.drop
  · have s1 := st.alloc #[.int .i64 18, .int .i64 19] 3
    have r1 : RdS _ 1 (some ⟨w.heap.size, 0, none⟩) 2 2 (ivs [18, 19]) := St.rowRd (sz := 1) (n := 2) s1 rfl (by decide) (ivs_one [18, 19])
    rw [show ((6 : Nat) : Int) = 6 from rfl]
    have e : hasB k 6 = memB [18, 19] k := rfl
    rw [e] at K
    have HK := hid K; clear K e
    go_enter Tryz.func108, Tryz.ntmps108
    go_wp2_with (go_at_call 156; refine rin_c r1 ?_)
    exact HK.out _ s1.drop
  · have s1 := st.alloc #[.int .i64 11, .int .i64 12, .int .i64 15] 3
    have r1 : RdS _ 1 (some ⟨w.heap.size, 0, none⟩) 3 3 (ivs [11, 12, 15]) := St.rowRd (sz := 1) (n := 3) s1 rfl (by decide) (ivs_one [11, 12, 15])
    rw [show ((7 : Nat) : Int) = 7 from rfl]
    have e : hasB k 7 = memB [11, 12, 15] k := rfl
    rw [e] at K
    have HK := hid K; clear K e
    go_enter Tryz.func108, Tryz.ntmps108
    go_wp2_with (go_at_call 156; refine rin_c r1 ?_)
    exact HK.out _ s1.drop
  · have s1 := st.alloc #[.int .i64 10, .int .i64 14, .int .i64 15, .int .i64 16, .int .i64 17, .int .i64 18, .int .i64 19] 3
    have r1 : RdS _ 1 (some ⟨w.heap.size, 0, none⟩) 7 7 (ivs [10, 14, 15, 16, 17, 18, 19]) := St.rowRd (sz := 1) (n := 7) s1 rfl (by decide) (ivs_one [10, 14, 15, 16, 17, 18, 19])
    rw [show ((8 : Nat) : Int) = 8 from rfl]
    have e : hasB k 8 = memB [10, 14, 15, 16, 17, 18, 19] k := rfl
    rw [e] at K
    have HK := hid K; clear K e
    go_enter Tryz.func108, Tryz.ntmps108
    go_wp2_with (go_at_call 156; refine rin_c r1 ?_)
    exact HK.out _ s1.drop

end

attribute [local go_sem ↓] execOp_ldAny


section
variable {W w : World} {R : List HP} {post : Ending → World → Prop}

set_option maxRecDepth 100000 in
set_option maxHeartbeats 4000000 in
theorem rmkGood_c {m : MkV} (st : St W w R) (K : ∀ w', St W w' R → post (.returned (.bool (markB m))) w') : Calls Tryz.prog 63 #[.agg m.cells.toArray] w post := by
  have HK := K; clear K
  unfold markB at HK
  obtain ⟨b0, e0⟩ : ∃ b, stampB m.c m.s = b := ⟨_, rfl⟩
  obtain ⟨b1, e1⟩ : ∃ b, decide (1 ≤ (m.key.size : Int)) = b := ⟨_, rfl⟩
  obtain ⟨b2, e2⟩ : ∃ b, decide ((m.key.size : Int) ≤ 16) = b := ⟨_, rfl⟩
  rw [e0, e1, e2] at HK
  cases b0 with
  | false =>
    simp only [Bool.false_and] at HK
    have HK2 := hid HK; clear HK
    go_enter Tryz.func63, Tryz.ntmps63
    go_wp2_with (first
      | (refine wpl_boxA (vs := m.cells) rfl (.tmp 0) rfl rfl st ?_; rintro T w0 s0; obtain ⟨c0, c1⟩ := mkLOf s0)
      | (go_at_call 109; refine rstGood_c s0 ?_; rintro w1 s1; rw [e0]; obtain ⟨c2, c3⟩ := mkLOf s1)
      | fail)
    exact HK2.out _ (St.drop s1)
  | true =>
    cases b1 with
    | false =>
      simp only [Bool.true_and, Bool.false_and] at HK
      have HK2 := hid HK; clear HK
      go_enter Tryz.func63, Tryz.ntmps63
      go_wp2_with (first
        | (refine wpl_boxA (vs := m.cells) rfl (.tmp 0) rfl rfl st ?_; rintro T w0 s0; obtain ⟨c0, c1⟩ := mkLOf s0)
        | (go_at_call 109; refine rstGood_c s0 ?_; rintro w1 s1; rw [e0]; obtain ⟨c2, c3⟩ := mkLOf s1)
        | fail)
      exact HK2.out _ (St.drop s1)
    | true =>
      cases b2 with
      | false =>
        simp only [Bool.true_and] at HK
        have HK2 := hid HK; clear HK
        go_enter Tryz.func63, Tryz.ntmps63
        go_wp2_with (first
          | (refine wpl_boxA (vs := m.cells) rfl (.tmp 0) rfl rfl st ?_; rintro T w0 s0; obtain ⟨c0, c1⟩ := mkLOf s0)
          | (go_at_call 109; refine rstGood_c s0 ?_; rintro w1 s1; rw [e0]; obtain ⟨c2, c3⟩ := mkLOf s1)
          | fail)
        exact HK2.out _ (St.drop s1)
      | true =>
        simp only [Bool.true_and] at HK
        have HK2 := hid HK; clear HK
        go_enter Tryz.func63, Tryz.ntmps63
        go_wp2_with (first
          | (refine wpl_boxA (vs := m.cells) rfl (.tmp 0) rfl rfl st ?_; rintro T w0 s0; obtain ⟨c0, c1⟩ := mkLOf s0)
          | (go_at_call 109; refine rstGood_c s0 ?_; rintro w1 s1; rw [e0]; obtain ⟨c2, c3⟩ := mkLOf s1)
          | fail)
        exact HK2.out _ (St.drop s1)

end

end Go.Proofs.YtojfjbbggpfijaaGreatDoor

/- The document's Good of a message of rumors, or of echoes: it may be. -/
namespace Go.Proofs.YtojfjbbggpfijaaGreatDoor
open Go.RowKit Go.Qd

/-- A message that has nothing but marks and entries. -/
def ltrM (k : Int) (ma : Option Addr) (mn mq : Nat) (ea : Option Addr) (en eq : Nat) : MsgV := { kindM k with ma := ma, mn := mn, mq := mq, ea := ea, en := en, eq := eq }
def neRM (x y : Operand) (a b : Value) : Sem Value := do eqGuard .neq 46 x y a b; Go.binOp .neq 46 a b
def eqRM (x y : Operand) (a b : Value) : Sem Value := do eqGuard .eql 46 x y a b; Go.binOp .eql 46 a b
theorem execOp_neRM (ρ : Operand → Value) (dst : Option Tmp) (x y : Operand) (r : TypeId) (ty : TypeId) (pos : String) (after : Array Edge) (guard : Option (Nat × Bool)) :
    execOp ρ { dst, op := .binOp .neq 46 x y r, type := ty, pos, after, guard } = (do pure (.value (← neRM x y (ρ x) (ρ y)))) := by simp [execOp, neRM]
theorem execOp_eqRM (ρ : Operand → Value) (dst : Option Tmp) (x y : Operand) (r : TypeId) (ty : TypeId) (pos : String) (after : Array Edge) (guard : Option (Nat × Bool)) :
    execOp ρ { dst, op := .binOp .eql 46 x y r, type := ty, pos, after, guard } = (do pure (.value (← eqRM x y (ρ x) (ρ y)))) := by simp [execOp, eqRM]
theorem run_neRM (x y : Operand) (w : World) : (neRM x y (.agg #[.int .i64 0, .int .i64 0, .string ByteArray.empty]) (.agg #[.int .i64 0, .int .i64 0, .string ByteArray.empty])).run Tryz.prog w = .ok (.bool false) w := by
  unfold neRM; go_simp
theorem run_eqRM (x y : Operand) (w : World) : (eqRM x y (.agg #[.int .i64 0, .int .i64 0, .string ByteArray.empty]) (.agg #[.int .i64 0, .int .i64 0, .string ByteArray.empty])).run Tryz.prog w = .ok (.bool true) w := by
  unfold eqRM; go_simp
def bRM : Sem Value := Instr.build 46 #[]
theorem execOp_bRM (ρ : Operand → Value) (dst : Option Tmp) (ty : TypeId) (pos : String) (after : Array Edge) (guard : Option (Nat × Bool)) :
    execOp ρ { dst, op := .build 46 #[], type := ty, pos, after, guard } = (do pure (.value (← bRM))) := by simp [execOp, bRM]
theorem run_bRM (w : World) : bRM.run Tryz.prog w = .ok (.agg #[.int .i64 0, .int .i64 0, .string ByteArray.empty]) w := by kernel_rfl
attribute [local go_sem ↓] execOp_ldAny execOp_neRM execOp_eqRM execOp_bRM
attribute [local go_sem] run_neRM run_eqRM run_bRM

section
variable {W w : World} {R : List HP} {post : Ending → World → Prop} {k : Nat} {ma ea : Option Addr} {mn mq en eq : Nat} {ks : List MkV} {es : List EnV}
theorem ltrL {T : Nat} (s : St W w (row T 0 (ltrM k ma mn mq ea en eq).cells :: R)) :
    ((loadG 3 (.pointer (some ⟨T, 0, none⟩))).run Tryz.prog w = .ok (.int .i64 k) w ∧ (loadG 3 (.pointer (some ⟨T, 1, none⟩))).run Tryz.prog w = .ok (.int .i64 0) w ∧ (loadG 3 (.pointer (some ⟨T, 2, none⟩))).run Tryz.prog w = .ok (.int .i64 0) w ∧
    (loadG 4 (.pointer (some ⟨T, 3, none⟩))).run Tryz.prog w = .ok (.bool false) w ∧ (loadG 24 (.pointer (some ⟨T, 4, none⟩))).run Tryz.prog w = .ok (.slice none 0 0) w ∧ (loadG 3 (.pointer (some ⟨T, 5, none⟩))).run Tryz.prog w = .ok (.int .i64 0) w ∧
    (loadG 44 (.pointer (some ⟨T, 6, none⟩))).run Tryz.prog w = .ok (.int .u64 0) w ∧ (loadG 46 (.pointer (some ⟨T, 7, none⟩))).run Tryz.prog w = .ok (.agg #[.int .i64 0, .int .i64 0, .string ByteArray.empty]) w) ∧
    (loadG 47 (.pointer (some ⟨T, 10, none⟩))).run Tryz.prog w = .ok (.slice ma mn mq) w ∧ (loadG 48 (.pointer (some ⟨T, 11, none⟩))).run Tryz.prog w = .ok (.slice ea en eq) w ∧
    (loadG 50 (.pointer (some ⟨T, 0, none⟩))).run Tryz.prog w = .ok (.agg (ltrM k ma mn mq ea en eq).cells.toArray) w :=
  ⟨msgR s, (msgS s).1, (msgS s).2, lgRM s⟩
def hi7 (k : Nat) : Int := if k = 15 then 8 else 0
def lo8 (k : Nat) : Int := if k = 14 then 1 else 0
set_option maxRecDepth 100000 in
set_option maxHeartbeats 8000000 in
theorem many7_c (hk : k = 14 ∨ k = 15) (st : St W w R) (K : ∀ w', St W w' R → post (.returned (.tuple #[.int .i64 0, .int .i64 (hi7 k)])) w') : Calls Tryz.prog 107 #[.int .i64 k, .int .i64 7] w post := by
  rcases hk with rfl | rfl
  all_goals
    have HK := hid K; clear K
    go_enter Tryz.func107, Tryz.ntmps107
    go_wp2_with (go_at_call 108; refine rhas_c (f := 7) (by decide) st ?_; rintro w1 s1; first | rw [show hasB _ 7 = true from rfl] | rw [show hasB _ 7 = false from rfl])
    first
      | exact HK.out _ s1
      | (go_ret2; exact HK.out _ s1)
set_option maxRecDepth 100000 in
set_option maxHeartbeats 8000000 in
theorem many8_c (hk : k = 14 ∨ k = 15) (st : St W w R) (K : ∀ w', St W w' R → post (.returned (.tuple #[.int .i64 (lo8 k), .int .i64 8])) w') : Calls Tryz.prog 107 #[.int .i64 k, .int .i64 8] w post := by
  rcases hk with rfl | rfl
  all_goals
    have HK := hid K; clear K
    go_enter Tryz.func107, Tryz.ntmps107
    go_wp2_with (go_at_call 108; refine rhas_c (f := 8) (by decide) st ?_; rintro w1 s1; first | rw [show hasB _ 8 = true from rfl] | rw [show hasB _ 8 = false from rfl])
    first
      | exact HK.out _ s1
      | (go_ret2; exact HK.out _ s1)
set_option maxRecDepth 100000 in
set_option maxHeartbeats 8000000 in
theorem rcounts_c (hk : k = 14 ∨ k = 15) (h7 : (mn : Int) ≤ hi7 k) (h8 : lo8 k ≤ (en : Int) ∧ (en : Int) ≤ 8) (st : St W w R) (K : ∀ w', St W w' R → post (.returned (.bool true)) w') : Calls Tryz.prog 60 #[.agg (ltrM k ma mn mq ea en eq).cells.toArray] w post := by
  have HK := hid K; clear K
  have HKK := hid hk
  obtain ⟨a7, e7⟩ : ∃ z, hi7 k = z := ⟨_, rfl⟩
  obtain ⟨a8, e8⟩ : ∃ z, lo8 k = z := ⟨_, rfl⟩
  rw [e7] at h7
  rw [e8] at h8
  have E7 := hid e7; have E8 := hid e8
  have d0 : decide ((0 : Int) ≤ (mn : Int)) = true := decide_eq_true (by omega)
  have d1 : decide ((mn : Int) ≤ a7) = true := decide_eq_true h7
  have d2 : decide (a8 ≤ (en : Int)) = true := decide_eq_true h8.1
  have d3 : decide ((en : Int) ≤ 8) = true := decide_eq_true h8.2
  clear hk h7 h8 e7 e8
  go_enter Tryz.func60, Tryz.ntmps60
  go_wp2_with (first
    | (refine wpl_boxA (vs := (ltrM k ma mn mq ea en eq).cells) rfl (.tmp 0) rfl rfl st ?_; rintro T w1 s; obtain ⟨⟨c0, c1, c2, c3, c4, c5, c6, c7⟩, c8, c9, cT⟩ := ltrL s)
    | (go_at_call 107; first
        | (have gg := s9; refine many8_c HKK.out s9 ?_; clear c0 c1 c2 c3 c4 c5 c6 c7 c8 c9 cT gg; rintro w3 s3; rw [E8.out]; obtain ⟨⟨c0, c1, c2, c3, c4, c5, c6, c7⟩, c8, c9, cT⟩ := ltrL s3)
        | (refine many7_c HKK.out s ?_; clear c0 c1 c2 c3 c4 c5 c6 c7 c8 c9 cT; rintro w2 s9; rw [E7.out]; obtain ⟨⟨c0, c1, c2, c3, c4, c5, c6, c7⟩, c8, c9, cT⟩ := ltrL s9)))
  exact HK.out _ s3.drop
set_option maxRecDepth 100000 in
set_option maxHeartbeats 8000000 in
theorem rfields_c (hk : k = 14 ∨ k = 15) (st : St W w R) (K : ∀ w', St W w' R → post (.returned (.bool true)) w') : Calls Tryz.prog 61 #[.agg (ltrM k ma mn mq ea en eq).cells.toArray] w post := by
  have HK := hid K; clear K
  have HH : Hid (∀ f, f < 7 → hasB (k : Int) f = false) := hid (fun f hf => by
    have hf7 : f = 0 ∨ f = 1 ∨ f = 2 ∨ f = 3 ∨ f = 4 ∨ f = 5 ∨ f = 6 := by omega
    rcases hk with rfl | rfl <;> rcases hf7 with rfl | rfl | rfl | rfl | rfl | rfl | rfl <;> rfl)
  clear hk
  go_enter Tryz.func61, Tryz.ntmps61
  go_wp2_with (first
    | (refine wpl_boxA (vs := (ltrM k ma mn mq ea en eq).cells) rfl (.tmp 0) rfl rfl st ?_; rintro T w1 s; obtain ⟨⟨c0, c1, c2, c3, c4, c5, c6, c7⟩, c8, c9, cT⟩ := ltrL s)
    | (go_at_call 108; refine rhas_c (by decide) s ?_; clear c0 c1 c2 c3 c4 c5 c6 c7 c8 c9 cT s; rintro w1 s; rw [HH.out _ (by decide)]; obtain ⟨⟨c0, c1, c2, c3, c4, c5, c6, c7⟩, c8, c9, cT⟩ := ltrL s))
  exact HK.out _ s.drop
set_option maxRecDepth 100000 in
set_option maxHeartbeats 16000000 in
/-- The document's Good of such a message. -/
theorem rgoodR_c (hk : k = 14 ∨ k = 15) (h7 : (mn : Int) ≤ hi7 k) (h8 : lo8 k ≤ (en : Int) ∧ (en : Int) ≤ 8) (hm : ∀ x ∈ ks, markB x = true) (he : ∀ x ∈ es, checkE x = 0) (hpM : Rds W R 3 ma mn mq (mkC ks)) (hpE : Rds W R 9 ea en eq (enC es))
    (st : St W w R) (K : ∀ w', St W w' R → post (.returned (.int .i64 0)) w') : Calls Tryz.prog 25 #[.agg (ltrM k ma mn mq ea en eq).cells.toArray] w post := by
  have HK := hid K; clear K
  have HKK := hid hk; have H7 := hid h7; have H8 := hid h8; have HM := hid hm; have HE := hid he; have HPM := hid hpM; have HPE := hid hpE
  have HLM : Hid (ks.length = mn) := hid (mkC_ln (hpM w st))
  have HLE : Hid (es.length = en) := hid (enC_ln (hpE w st))
  have hmb := (hpM w st).big
  have heb := (hpE w st).big
  have HS : Hid (siteE 0 = true) := hid rfl
  have i1 : decide ((k : Int) < 1) = false := decide_eq_false (by rcases hk with rfl | rfl <;> decide)
  have i2 : decide (19 < (k : Int)) = false := decide_eq_false (by rcases hk with rfl | rfl <;> decide)
  clear hk h7 h8 hm he hpM hpE
  go_enter Tryz.func25, Tryz.ntmps25
  go_wp2_with (first
    | (refine wpl_boxA (vs := (ltrM k ma mn mq ea en eq).cells) rfl (.tmp 0) rfl rfl st ?_; rintro T w1 s; obtain ⟨⟨c0, c1, c2, c3, c4, c5, c6, c7⟩, c8, c9, cT⟩ := ltrL s)
    | (go_at_call 60; refine rcounts_c HKK.out H7.out H8.out s ?_; clear c0 c1 c2 c3 c4 c5 c6 c7 c8 c9 cT s; rintro w1 s; obtain ⟨⟨c0, c1, c2, c3, c4, c5, c6, c7⟩, c8, c9, cT⟩ := ltrL s)
    | (go_at_call 61; refine rfields_c HKK.out s ?_; clear c0 c1 c2 c3 c4 c5 c6 c7 c8 c9 cT s; rintro w1 s; obtain ⟨⟨c0, c1, c2, c3, c4, c5, c6, c7⟩, c8, c9, cT⟩ := ltrL s)
    | (go_at_call 62; refine rsiteE_c ?_; rw [HS.out]))
  go_loopw [3] (fun ii wr => ii = .int .i64 0 ∧ St W wr (row T 0 (ltrM k ma mn mq ea en eq).cells :: R)) (fun _ _ => 0)
  case atStart => exact ⟨rfl, s⟩
  case round =>
    clear c0 c1 c2 c3 c4 c5 c6 c7 c8 c9 cT s
    obtain ⟨rfl, s⟩ := hrel
    obtain ⟨⟨c0, c1, c2, c3, c4, c5, c6, c7⟩, c8, c9, cT⟩ := ltrL s
    go_wp2_with fail
    go_loopw [4] (fun ii wr => ∃ i : Nat, i ≤ mn ∧ ii = .int .i64 i ∧ St W wr (row T 0 (ltrM k ma mn mq ea en eq).cells :: R)) (fun ii _ => mn - (intOf ii).toNat)
    case atStart => exact ⟨0, Nat.zero_le _, rfl, s⟩
    case round =>
      clear c0 c1 c2 c3 c4 c5 c6 c7 c8 c9 cT s
      obtain ⟨i, hi, rfl, s⟩ := hrel
      obtain ⟨⟨c0, c1, c2, c3, c4, c5, c6, c7⟩, c8, c9, cT⟩ := ltrL s
      by_cases hlt : i < mn
      · have hi2 : (i : Int) < (mn : Int) := by omega
        have rd := HPM.out _ s.drop
        obtain ⟨g3, o3, rfl⟩ := rd.addr (by omega)
        have hiA : i < ks.length := by rw [HLM.out]; exact hlt
        have ci := rmkLd rd hiA
        have hb := HM.out _ (List.getElem_mem hiA)
        obtain ⟨q, hq⟩ : ∃ q, ks[i] = q := ⟨_, rfl⟩
        rw [hq] at ci hb
        have HB := hid hb
        clear hq rd hiA hb
        go_wp2_with (go_at_call 63; refine rmkGood_c s ?_; rintro w5 s5; rw [HB.out])
        go_roundw
        case rel => exact ⟨i + 1, by omega, by go_num, s5⟩
        case measure => simp [intOf]; omega
      · have hie : mn = i := by omega
        subst hie
        go_wp2_with fail
        go_loopw [5] (fun ii wr => ∃ i : Nat, i ≤ en ∧ ii = .int .i64 i ∧ St W wr (row T 0 (ltrM k ma mn mq ea en eq).cells :: R)) (fun ii _ => en - (intOf ii).toNat)
        case atStart => exact ⟨0, Nat.zero_le _, rfl, s⟩
        case round =>
          clear c0 c1 c2 c3 c4 c5 c6 c7 c8 c9 cT s
          obtain ⟨i, hi, rfl, s⟩ := hrel
          obtain ⟨⟨c0, c1, c2, c3, c4, c5, c6, c7⟩, c8, c9, cT⟩ := ltrL s
          by_cases hlt : i < en
          · have hi2 : (i : Int) < (en : Int) := by omega
            have rd := HPE.out _ s.drop
            obtain ⟨g3, o3, rfl⟩ := rd.addr (by omega)
            have hiA : i < es.length := by rw [HLE.out]; exact hlt
            have ci := renLd rd hiA
            have hb := HE.out _ (List.getElem_mem hiA)
            obtain ⟨q, hq⟩ : ∃ q, es[i] = q := ⟨_, rfl⟩
            rw [hq] at ci hb
            have HB : Hid (rcheckE q = 0) := hid ((rcheckE_is q).trans hb)
            clear hq rd hiA hb
            go_wp2_with (go_at_call 64; refine rcheckE_c s ?_; rintro w5 s5; rw [HB.out])
            go_roundw
            case rel => exact ⟨i + 1, by omega, by go_num, s5⟩
            case measure => simp [intOf]; omega
          · have hie : en = i := by omega
            subst hie
            go_wp2_with fail
            exact HK.out _ s.drop
end
end Go.Proofs.YtojfjbbggpfijaaGreatDoor
