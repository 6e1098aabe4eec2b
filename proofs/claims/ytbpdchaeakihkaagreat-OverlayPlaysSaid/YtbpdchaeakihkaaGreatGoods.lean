/- Goods: several texts, joined. wire: node, Equal with nothing, Same with a bare message. -/
import Derived.Test.YtbpdchaeakihkaaGreatForms
import Derived.Test.YtbpdchaeakihkaaGreatCfs
import Derived.Test.YtbpdchaeakihkaaGreatNews
namespace Go.Proofs.YtbpdchaeakihkaaGreat
open Go.RowKit Go.Qd

def wnodeB (n : Int) : Bool := decide (0 ≤ n) && decide (n < 12)
theorem agg54 : AggT Tryz.prog 54 3 := ⟨⟨_, Tryz.underlying54, rfl⟩, by kernel_rfl⟩

section
variable {W w : World} {R : List HP} {post : Ending → World → Prop} {m : MsgV}

theorem wnode_c {n : Int} (K : post (.returned (.bool (wnodeB n))) w) : Calls Tryz.prog 143 #[.int .i64 n] w post := by
  have HK := hid K; clear K
  by_cases h0 : 0 ≤ n
  · have e : wnodeB n = decide (n < 12) := by unfold wnodeB; rw [decide_eq_true h0, Bool.true_and]
    rw [e] at HK
    clear e
    have h1 : decide (0 ≤ n) = true := decide_eq_true h0
    clear h0
    go_enter Tryz.func143, Tryz.ntmps143
    go_wp2
    exact HK.out
  · have e : wnodeB n = false := by unfold wnodeB; rw [decide_eq_false h0, Bool.false_and]
    rw [e] at HK
    clear e
    have h1 : decide (0 ≤ n) = false := decide_eq_false h0
    clear h0
    go_enter Tryz.func143, Tryz.ntmps143
    go_wp2
    exact HK.out

theorem equal170_c {a : Option Addr} {n c : Nat} (K : post (.returned (.bool (decide (n = 0)))) w) : Calls Tryz.prog 170 #[.slice a n c, .slice none 0 0] w post := by
  have HK := hid K; clear K
  by_cases h : n = 0
  · subst h
    go_enter Tryz.func170, Tryz.ntmps170
    go_wp2_with fail
    go_loopw [13] (fun ii wr => ii = .int .i64 0 ∧ wr = w) (fun _ _ => 0)
    case atStart => exact ⟨rfl, rfl⟩
    case round =>
      obtain ⟨rfl, rfl⟩ := hrel
      go_wp2_with fail
      exact HK.out
  · have hn : ¬ ((n : Int) = 0) := by omega
    rw [decide_eq_false h] at HK
    clear h
    go_enter Tryz.func170, Tryz.ntmps170
    go_wp2
    exact HK.out

theorem equal171_c (K : post (.returned (.bool true)) w) : Calls Tryz.prog 171 #[.slice none 0 0, .slice none 0 0] w post := by
  have HK := hid K; clear K
  go_enter Tryz.func171, Tryz.ntmps171
  go_wp2_with fail
  go_loopw [13] (fun ii wr => ii = .int .i64 0 ∧ wr = w) (fun _ _ => 0)
  case atStart => exact ⟨rfl, rfl⟩
  case round =>
    obtain ⟨rfl, rfl⟩ := hrel
    go_wp2_with fail
    exact HK.out

theorem equal172_c (K : post (.returned (.bool true)) w) : Calls Tryz.prog 172 #[.slice none 0 0, .slice none 0 0] w post := by
  have HK := hid K; clear K
  go_enter Tryz.func172, Tryz.ntmps172
  go_wp2_with fail
  go_loopw [13] (fun ii wr => ii = .int .i64 0 ∧ wr = w) (fun _ _ => 0)
  case atStart => exact ⟨rfl, rfl⟩
  case round =>
    obtain ⟨rfl, rfl⟩ := hrel
    go_wp2_with fail
    exact HK.out

end
section
variable {W w : World} {R : List HP} {post : Ending → World → Prop} {m : MsgV}
attribute [local go_sem ↓] execOp_loadAny

theorem run_load1 {t : TypeId} {w : World} {B o : Nat} {v : Value} (hg : (isAgg t).run Tryz.prog w = .ok false w) (h : w.cell? ⟨B, o, none⟩ = some v) : (loadG t (.pointer (some ⟨B, o, none⟩))).run Tryz.prog w = .ok v w := by
  unfold loadG
  simp [go_sem, h, hg, Instr.loadAt]
theorem msgL {T : Nat} {m : MsgV} (s : St W w (row T 0 m.cells :: R)) :
    (loadG 3 (.pointer (some ⟨T, 0, none⟩))).run Tryz.prog w = .ok (.int .i64 m.kind) w ∧ (loadG 3 (.pointer (some ⟨T, 1, none⟩))).run Tryz.prog w = .ok (.int .i64 m.peer) w ∧
    (loadG 3 (.pointer (some ⟨T, 2, none⟩))).run Tryz.prog w = .ok (.int .i64 m.hops) w ∧ (loadG 4 (.pointer (some ⟨T, 3, none⟩))).run Tryz.prog w = .ok (.bool m.high) w ∧
    (loadG 24 (.pointer (some ⟨T, 4, none⟩))).run Tryz.prog w = .ok (.slice m.pa m.pn m.pc) w ∧ (loadG 3 (.pointer (some ⟨T, 5, none⟩))).run Tryz.prog w = .ok (.int .i64 m.number) w ∧
    (loadG 50 (.pointer (some ⟨T, 6, none⟩))).run Tryz.prog w = .ok (.int .u64 m.sum) w ∧ (loadG 54 (.pointer (some ⟨T, 7, none⟩))).run Tryz.prog w = .ok (.agg #[.int .i64 m.mc, .int .i64 m.ms, .string m.key]) w ∧
    (loadG 55 (.pointer (some ⟨T, 10, none⟩))).run Tryz.prog w = .ok (.slice m.ma m.mn m.mq) w ∧ (loadG 56 (.pointer (some ⟨T, 11, none⟩))).run Tryz.prog w = .ok (.slice m.ea m.en m.eq) w := by
  obtain ⟨c0, c1, c2, c3, c4, c5, c6, c7, c8, c9, c10, c11⟩ := boxM s
  refine ⟨run_load1 (by kernel_rfl) c0, run_load1 (by kernel_rfl) c1, run_load1 (by kernel_rfl) c2, run_load1 (by kernel_rfl) c3, run_load1 (by kernel_rfl) c4, run_load1 (by kernel_rfl) c5, run_load1 (by kernel_rfl) c6, ?_, run_load1 (by kernel_rfl) c10, run_load1 (by kernel_rfl) c11⟩
  have h := run_loadG (o := 0 + 7) agg54 (vs := [.int .i64 m.mc, .int .i64 m.ms, .string m.key]) rfl (St.rowPart s 7 (xs := [.int .i64 m.mc, .int .i64 m.ms, .string m.key]) (ys := [.slice m.ma m.mn m.mq, .slice m.ea m.en m.eq]) rfl)
  exact h

end

/-- Is a message but its kind, without marks and entries, the bare one of a kind? -/
def sameB (m : MsgV) (k : Int) : Bool := (m.kind == k) && ((m.peer == 0) && ((m.hops == 0) && ((m.high == false) && ((m.number == 0) && ((m.sum == 0) && (decide (m.mc = 0) && (decide (m.ms = 0) && (decide (m.key.toList = []) && decide (m.pn = 0)))))))))

section
variable {W w : World} {R : List HP} {post : Ending → World → Prop} {m : MsgV}
attribute [local go_sem ↓] execOp_loadAny

set_option maxRecDepth 100000 in
set_option maxHeartbeats 8000000 in
theorem wsame_c {k : Int} (hz : m.ma = none ∧ m.mn = 0 ∧ m.mq = 0 ∧ m.ea = none ∧ m.en = 0 ∧ m.eq = 0) (st : St W w R) (K : ∀ w', St W w' R → post (.returned (.bool (sameB m k))) w') : Calls Tryz.prog 141 #[.agg m.cells.toArray, .agg (kindM k).cells.toArray] w post := by
  obtain ⟨kind, peer, hops, high, pa, pn, pc, ps, number, sum, mc, ms, key, ma, mn, mq, ea, en, eq⟩ := m
  simp only at hz
  obtain ⟨rfl, rfl, rfl, rfl, rfl, rfl⟩ := hz
  simp only [sameB] at K
  obtain ⟨m, hm⟩ : ∃ m : MsgV, (⟨kind, peer, hops, high, pa, pn, pc, ps, number, sum, mc, ms, key, none, 0, 0, none, 0, 0⟩ : MsgV) = m := ⟨_, rfl⟩
  have HM := hid hm
  rw [hm]
  clear hm
  obtain ⟨b0, e0⟩ : ∃ b, (kind == k) = b := ⟨_, rfl⟩
  rw [e0] at K
  cases b0 with
  | false =>
    simp only [Bool.false_and] at K
    have HK := hid K; clear K
    go_enter Tryz.func141, Tryz.ntmps141
    go_wp2_with (first
      | (replace st := hid st; refine wpl_boxA (vs := m.cells) rfl (.tmp 0) rfl rfl st.out ?_; rintro T w1 s1; clear st)
      | (replace s1 := hid s1; refine wpl_boxA (vs := (kindM k).cells) rfl (.tmp 1) rfl rfl s1.out ?_; rintro U w2 s2; clear s1; obtain ⟨l0, l1, l2, l3, l4, l5, l6, l7, l8, l9⟩ := msgL s2; obtain ⟨j0, j1, j2, j3, j4, j5, j6, j7, j8, j9⟩ := msgL (St.pick 1 s2); simp only [kindM] at l0 l1 l2 l3 l4 l5 l6 l7 l8 l9; simp only [← HM.out] at j0 j1 j2 j3 j4 j5 j6 j7 j8 j9))
    exact HK.out _ (s2.dropN 2)
  | true =>
    obtain ⟨b1, e1⟩ : ∃ b, (peer == 0) = b := ⟨_, rfl⟩
    rw [e1] at K
    cases b1 with
    | false =>
      simp only [Bool.false_and, Bool.true_and] at K
      have HK := hid K; clear K
      go_enter Tryz.func141, Tryz.ntmps141
      go_wp2_with (first
        | (replace st := hid st; refine wpl_boxA (vs := m.cells) rfl (.tmp 0) rfl rfl st.out ?_; rintro T w1 s1; clear st)
        | (replace s1 := hid s1; refine wpl_boxA (vs := (kindM k).cells) rfl (.tmp 1) rfl rfl s1.out ?_; rintro U w2 s2; clear s1; obtain ⟨l0, l1, l2, l3, l4, l5, l6, l7, l8, l9⟩ := msgL s2; obtain ⟨j0, j1, j2, j3, j4, j5, j6, j7, j8, j9⟩ := msgL (St.pick 1 s2); simp only [kindM] at l0 l1 l2 l3 l4 l5 l6 l7 l8 l9; simp only [← HM.out] at j0 j1 j2 j3 j4 j5 j6 j7 j8 j9))
      exact HK.out _ (s2.dropN 2)
    | true =>
      obtain ⟨b2, e2⟩ : ∃ b, (hops == 0) = b := ⟨_, rfl⟩
      rw [e2] at K
      cases b2 with
      | false =>
        simp only [Bool.false_and, Bool.true_and] at K
        have HK := hid K; clear K
        go_enter Tryz.func141, Tryz.ntmps141
        go_wp2_with (first
          | (replace st := hid st; refine wpl_boxA (vs := m.cells) rfl (.tmp 0) rfl rfl st.out ?_; rintro T w1 s1; clear st)
          | (replace s1 := hid s1; refine wpl_boxA (vs := (kindM k).cells) rfl (.tmp 1) rfl rfl s1.out ?_; rintro U w2 s2; clear s1; obtain ⟨l0, l1, l2, l3, l4, l5, l6, l7, l8, l9⟩ := msgL s2; obtain ⟨j0, j1, j2, j3, j4, j5, j6, j7, j8, j9⟩ := msgL (St.pick 1 s2); simp only [kindM] at l0 l1 l2 l3 l4 l5 l6 l7 l8 l9; simp only [← HM.out] at j0 j1 j2 j3 j4 j5 j6 j7 j8 j9))
        exact HK.out _ (s2.dropN 2)
      | true =>
        obtain ⟨b3, e3⟩ : ∃ b, (high == false) = b := ⟨_, rfl⟩
        rw [e3] at K
        cases b3 with
        | false =>
          simp only [Bool.false_and, Bool.true_and] at K
          have HK := hid K; clear K
          go_enter Tryz.func141, Tryz.ntmps141
          go_wp2_with (first
            | (replace st := hid st; refine wpl_boxA (vs := m.cells) rfl (.tmp 0) rfl rfl st.out ?_; rintro T w1 s1; clear st)
            | (replace s1 := hid s1; refine wpl_boxA (vs := (kindM k).cells) rfl (.tmp 1) rfl rfl s1.out ?_; rintro U w2 s2; clear s1; obtain ⟨l0, l1, l2, l3, l4, l5, l6, l7, l8, l9⟩ := msgL s2; obtain ⟨j0, j1, j2, j3, j4, j5, j6, j7, j8, j9⟩ := msgL (St.pick 1 s2); simp only [kindM] at l0 l1 l2 l3 l4 l5 l6 l7 l8 l9; simp only [← HM.out] at j0 j1 j2 j3 j4 j5 j6 j7 j8 j9))
          exact HK.out _ (s2.dropN 2)
        | true =>
          obtain ⟨b4, e4⟩ : ∃ b, (number == 0) = b := ⟨_, rfl⟩
          rw [e4] at K
          cases b4 with
          | false =>
            simp only [Bool.false_and, Bool.true_and] at K
            have HK := hid K; clear K
            go_enter Tryz.func141, Tryz.ntmps141
            go_wp2_with (first
              | (replace st := hid st; refine wpl_boxA (vs := m.cells) rfl (.tmp 0) rfl rfl st.out ?_; rintro T w1 s1; clear st)
              | (replace s1 := hid s1; refine wpl_boxA (vs := (kindM k).cells) rfl (.tmp 1) rfl rfl s1.out ?_; rintro U w2 s2; clear s1; obtain ⟨l0, l1, l2, l3, l4, l5, l6, l7, l8, l9⟩ := msgL s2; obtain ⟨j0, j1, j2, j3, j4, j5, j6, j7, j8, j9⟩ := msgL (St.pick 1 s2); simp only [kindM] at l0 l1 l2 l3 l4 l5 l6 l7 l8 l9; simp only [← HM.out] at j0 j1 j2 j3 j4 j5 j6 j7 j8 j9))
            exact HK.out _ (s2.dropN 2)
          | true =>
            obtain ⟨b5, e5⟩ : ∃ b, (sum == 0) = b := ⟨_, rfl⟩
            rw [e5] at K
            cases b5 with
            | false =>
              simp only [Bool.false_and, Bool.true_and] at K
              have HK := hid K; clear K
              go_enter Tryz.func141, Tryz.ntmps141
              go_wp2_with (first
                | (replace st := hid st; refine wpl_boxA (vs := m.cells) rfl (.tmp 0) rfl rfl st.out ?_; rintro T w1 s1; clear st)
                | (replace s1 := hid s1; refine wpl_boxA (vs := (kindM k).cells) rfl (.tmp 1) rfl rfl s1.out ?_; rintro U w2 s2; clear s1; obtain ⟨l0, l1, l2, l3, l4, l5, l6, l7, l8, l9⟩ := msgL s2; obtain ⟨j0, j1, j2, j3, j4, j5, j6, j7, j8, j9⟩ := msgL (St.pick 1 s2); simp only [kindM] at l0 l1 l2 l3 l4 l5 l6 l7 l8 l9; simp only [← HM.out] at j0 j1 j2 j3 j4 j5 j6 j7 j8 j9))
              exact HK.out _ (s2.dropN 2)
            | true =>
              by_cases e6 : ¬ (mc = 0)
              · rw [decide_eq_false e6] at K
                simp only [Bool.false_and, Bool.true_and] at K
                have HK := hid K; clear K
                go_enter Tryz.func141, Tryz.ntmps141
                go_wp2_with (first
                  | (replace st := hid st; refine wpl_boxA (vs := m.cells) rfl (.tmp 0) rfl rfl st.out ?_; rintro T w1 s1; clear st)
                  | (replace s1 := hid s1; refine wpl_boxA (vs := (kindM k).cells) rfl (.tmp 1) rfl rfl s1.out ?_; rintro U w2 s2; clear s1; obtain ⟨l0, l1, l2, l3, l4, l5, l6, l7, l8, l9⟩ := msgL s2; obtain ⟨j0, j1, j2, j3, j4, j5, j6, j7, j8, j9⟩ := msgL (St.pick 1 s2); simp only [kindM] at l0 l1 l2 l3 l4 l5 l6 l7 l8 l9; simp only [← HM.out] at j0 j1 j2 j3 j4 j5 j6 j7 j8 j9))
                exact HK.out _ (s2.dropN 2)
              replace e6 := Classical.not_not.1 e6
              rw [decide_eq_true e6] at K
              by_cases e7 : ¬ (ms = 0)
              · rw [decide_eq_false e7] at K
                simp only [Bool.false_and, Bool.true_and] at K
                have HK := hid K; clear K
                go_enter Tryz.func141, Tryz.ntmps141
                go_wp2_with (first
                  | (replace st := hid st; refine wpl_boxA (vs := m.cells) rfl (.tmp 0) rfl rfl st.out ?_; rintro T w1 s1; clear st)
                  | (replace s1 := hid s1; refine wpl_boxA (vs := (kindM k).cells) rfl (.tmp 1) rfl rfl s1.out ?_; rintro U w2 s2; clear s1; obtain ⟨l0, l1, l2, l3, l4, l5, l6, l7, l8, l9⟩ := msgL s2; obtain ⟨j0, j1, j2, j3, j4, j5, j6, j7, j8, j9⟩ := msgL (St.pick 1 s2); simp only [kindM] at l0 l1 l2 l3 l4 l5 l6 l7 l8 l9; simp only [← HM.out] at j0 j1 j2 j3 j4 j5 j6 j7 j8 j9))
                exact HK.out _ (s2.dropN 2)
              replace e7 := Classical.not_not.1 e7
              rw [decide_eq_true e7] at K
              by_cases e8 : ¬ (key.toList = [])
              · rw [decide_eq_false e8] at K
                simp only [Bool.false_and, Bool.true_and] at K
                have HK := hid K; clear K
                go_enter Tryz.func141, Tryz.ntmps141
                go_wp2_with (first
                  | (replace st := hid st; refine wpl_boxA (vs := m.cells) rfl (.tmp 0) rfl rfl st.out ?_; rintro T w1 s1; clear st)
                  | (replace s1 := hid s1; refine wpl_boxA (vs := (kindM k).cells) rfl (.tmp 1) rfl rfl s1.out ?_; rintro U w2 s2; clear s1; obtain ⟨l0, l1, l2, l3, l4, l5, l6, l7, l8, l9⟩ := msgL s2; obtain ⟨j0, j1, j2, j3, j4, j5, j6, j7, j8, j9⟩ := msgL (St.pick 1 s2); simp only [kindM] at l0 l1 l2 l3 l4 l5 l6 l7 l8 l9; simp only [← HM.out] at j0 j1 j2 j3 j4 j5 j6 j7 j8 j9))
                exact HK.out _ (s2.dropN 2)
              replace e8 := Classical.not_not.1 e8
              rw [decide_eq_true e8] at K
              simp only [Bool.true_and] at K
              by_cases e9 : pn = 0
              · rw [decide_eq_true e9] at K
                have E9 := hid e9; clear e9
                have HK := hid K; clear K
                go_enter Tryz.func141, Tryz.ntmps141
                go_wp2_with (first
                  | (replace st := hid st; refine wpl_boxA (vs := m.cells) rfl (.tmp 0) rfl rfl st.out ?_; rintro T w1 s1; clear st)
                  | (replace s1 := hid s1; refine wpl_boxA (vs := (kindM k).cells) rfl (.tmp 1) rfl rfl s1.out ?_; rintro U w2 s2; clear s1; obtain ⟨l0, l1, l2, l3, l4, l5, l6, l7, l8, l9⟩ := msgL s2; obtain ⟨j0, j1, j2, j3, j4, j5, j6, j7, j8, j9⟩ := msgL (St.pick 1 s2); simp only [kindM] at l0 l1 l2 l3 l4 l5 l6 l7 l8 l9; simp only [← HM.out] at j0 j1 j2 j3 j4 j5 j6 j7 j8 j9)
                  | (go_at_call 170; refine equal170_c ?_; rw [decide_eq_true E9.out])
                  | (go_at_call 171; refine equal171_c ?_)
                  | (go_at_call 172; refine equal172_c ?_))
                exact HK.out _ (s2.dropN 2)
              · rw [decide_eq_false e9] at K
                have HK := hid K; clear K
                go_enter Tryz.func141, Tryz.ntmps141
                go_wp2_with (first
                  | (replace st := hid st; refine wpl_boxA (vs := m.cells) rfl (.tmp 0) rfl rfl st.out ?_; rintro T w1 s1; clear st)
                  | (replace s1 := hid s1; refine wpl_boxA (vs := (kindM k).cells) rfl (.tmp 1) rfl rfl s1.out ?_; rintro U w2 s2; clear s1; obtain ⟨l0, l1, l2, l3, l4, l5, l6, l7, l8, l9⟩ := msgL s2; obtain ⟨j0, j1, j2, j3, j4, j5, j6, j7, j8, j9⟩ := msgL (St.pick 1 s2); simp only [kindM] at l0 l1 l2 l3 l4 l5 l6 l7 l8 l9; simp only [← HM.out] at j0 j1 j2 j3 j4 j5 j6 j7 j8 j9)
                  | (go_at_call 170; refine equal170_c ?_; rw [decide_eq_false e9])
                  | (go_at_call 171; refine equal171_c ?_)
                  | (go_at_call 172; refine equal172_c ?_))
                exact HK.out _ (s2.dropN 2)

end

end Go.Proofs.YtbpdchaeakihkaaGreat

/- wire: slices.IndexFunc, ContainsFunc with a predicate that only reads; all. -/
namespace Go.Proofs.YtbpdchaeakihkaaGreat
open Go.RowKit Go.Qd

theorem any_snoc {g : Int → Bool} {l : List Int} {i : Nat} (h : i < l.length) : (l.take (i + 1)).any g = ((l.take i).any g || g l[i]) := by
  rw [List.take_succ_eq_append_getElem h, List.any_append]; simp
theorem any_take {g : Int → Bool} {l : List Int} {i : Nat} (h : i < l.length) (hg : g l[i] = true) : l.any g = true :=
  List.any_eq_true.2 ⟨l[i], List.getElem_mem h, hg⟩

section
variable {W w : World} {R : List HP} {post : Ending → World → Prop}

/-- A predicate's value: it tells 'g', and leaves all as it was. -/
def PredF (W : World) (R : List HP) (F : Nat) (cap : Array Value) (g : Int → Bool) : Prop :=
  ∀ (x : Int) (w1 : World) (p1 : Ending → World → Prop), St W w1 R → (∀ w2, St W w2 R → p1 (.returned (.bool (g x))) w2) → Calls Tryz.prog F (#[.int .i64 x] ++ cap) w1 p1

set_option maxRecDepth 100000 in
set_option maxHeartbeats 4000000 in
theorem idxF181_c {p : Value} {g : Int → Bool} {a : Option Addr} {n c : Nat} {ps : List Int} (hp : Rds W R 1 a n c (ivs ps)) (hn : n ≤ 4096) (hf : PredF W R 181 #[p] g) (st : St W w R)
    (K : ∀ w' r, St W w' R → decide (0 ≤ r) = ps.any g → post (.returned (.int .i64 r)) w') : Calls Tryz.prog 149 #[.slice a n c, .func (.func 181) #[] #[p]] w post := by
  have HK := hid K; clear K
  have HF := hid hf; clear hf
  have HN : Hid (ps.length = n) := hid (by have := (hp w st).len; simp [ivs] at this; omega)
  go_enter Tryz.func149, Tryz.ntmps149
  go_wp2_with fail
  go_loopw [8] (fun ii wr => ∃ i : Nat, i ≤ n ∧ ii = .int .i64 i ∧ (ps.take i).any g = false ∧ St W wr R) (fun ii _ => n - (intOf ii).toNat)
  case atStart => exact ⟨0, Nat.zero_le _, rfl, rfl, st⟩
  case round =>
    obtain ⟨i, hi, rfl, hg, sr⟩ := hrel
    have HG := hid hg; clear hg
    by_cases hlt : i < n
    · have rd := hp _ sr
      obtain ⟨g3, o3, rfl⟩ := rd.addr (by omega)
      have hiA : i < ps.length := by rw [HN.out]; exact hlt
      have ci := rd.at (ivs_get hiA)
      have HS := hid (any_snoc (g := g) hiA)
      have hT := any_take (g := g) hiA
      obtain ⟨q, hq⟩ : ∃ q, ps[i] = q := ⟨_, rfl⟩
      rw [hq] at ci HS hT
      obtain ⟨b, hb⟩ : ∃ b, g q = b := ⟨_, rfl⟩
      have HB := hid hb
      have HT : Hid (b = true → ps.any g = true) := hid (fun h => hT (by rw [hb, h]))
      rw [hb] at HS
      clear hq hb rd hT
      have hi2 : (i : Int) < (n : Int) := by omega
      cases b with
      | true =>
        have HA := hid (HT.out rfl)
        clear HT
        go_wp2_with (go_at_call 181; refine HF.out q _ _ sr ?_; rintro w6 s6; rw [HB.out])
        exact HK.out _ _ s6 (by rw [HA.out]; exact decide_eq_true (by omega))
      | false =>
        go_wp2_with (go_at_call 181; refine HF.out q _ _ sr ?_; rintro w6 s6; rw [HB.out])
        go_roundw
        case rel => exact ⟨i + 1, by omega, by go_num, by rw [HS.out, HG.out]; rfl, s6⟩
        case measure => simp [intOf]; omega
    · have hie : i = n := by omega
      subst hie
      have hg := HG.out
      rw [List.take_of_length_le (by rw [HN.out]; exact Nat.le_refl _)] at hg
      have HG2 := hid hg; clear hg
      go_wp2_with fail
      exact HK.out _ _ sr (by rw [HG2.out]; rfl)

set_option maxRecDepth 100000 in
set_option maxHeartbeats 4000000 in
theorem contF181_c {p : Value} {g : Int → Bool} {a : Option Addr} {n c : Nat} {ps : List Int} (hp : Rds W R 1 a n c (ivs ps)) (hn : n ≤ 4096) (hf : PredF W R 181 #[p] g) (st : St W w R)
    (K : ∀ w', St W w' R → post (.returned (.bool (ps.any g))) w') : Calls Tryz.prog 94 #[.slice a n c, .func (.func 181) #[] #[p]] w post := by
  have HK := hid K; clear K
  go_enter Tryz.func94, Tryz.ntmps94
  go_wp2_with (go_at_call 149; refine idxF181_c hp hn hf st ?_; rintro w2 r s2 hr)
  exact HK.out _ s2
set_option maxRecDepth 100000 in
set_option maxHeartbeats 4000000 in
theorem idxF95_c {p : Value} {g : Int → Bool} {a : Option Addr} {n c : Nat} {ps : List Int} (hp : Rds W R 1 a n c (ivs ps)) (hn : n ≤ 4096) (hf : PredF W R 95 #[p] g) (st : St W w R)
    (K : ∀ w' r, St W w' R → decide (0 ≤ r) = ps.any g → post (.returned (.int .i64 r)) w') : Calls Tryz.prog 149 #[.slice a n c, .func (.func 95) #[] #[p]] w post := by
  have HK := hid K; clear K
  have HF := hid hf; clear hf
  have HN : Hid (ps.length = n) := hid (by have := (hp w st).len; simp [ivs] at this; omega)
  go_enter Tryz.func149, Tryz.ntmps149
  go_wp2_with fail
  go_loopw [8] (fun ii wr => ∃ i : Nat, i ≤ n ∧ ii = .int .i64 i ∧ (ps.take i).any g = false ∧ St W wr R) (fun ii _ => n - (intOf ii).toNat)
  case atStart => exact ⟨0, Nat.zero_le _, rfl, rfl, st⟩
  case round =>
    obtain ⟨i, hi, rfl, hg, sr⟩ := hrel
    have HG := hid hg; clear hg
    by_cases hlt : i < n
    · have rd := hp _ sr
      obtain ⟨g3, o3, rfl⟩ := rd.addr (by omega)
      have hiA : i < ps.length := by rw [HN.out]; exact hlt
      have ci := rd.at (ivs_get hiA)
      have HS := hid (any_snoc (g := g) hiA)
      have hT := any_take (g := g) hiA
      obtain ⟨q, hq⟩ : ∃ q, ps[i] = q := ⟨_, rfl⟩
      rw [hq] at ci HS hT
      obtain ⟨b, hb⟩ : ∃ b, g q = b := ⟨_, rfl⟩
      have HB := hid hb
      have HT : Hid (b = true → ps.any g = true) := hid (fun h => hT (by rw [hb, h]))
      rw [hb] at HS
      clear hq hb rd hT
      have hi2 : (i : Int) < (n : Int) := by omega
      cases b with
      | true =>
        have HA := hid (HT.out rfl)
        clear HT
        go_wp2_with (go_at_call 95; refine HF.out q _ _ sr ?_; rintro w6 s6; rw [HB.out])
        exact HK.out _ _ s6 (by rw [HA.out]; exact decide_eq_true (by omega))
      | false =>
        go_wp2_with (go_at_call 95; refine HF.out q _ _ sr ?_; rintro w6 s6; rw [HB.out])
        go_roundw
        case rel => exact ⟨i + 1, by omega, by go_num, by rw [HS.out, HG.out]; rfl, s6⟩
        case measure => simp [intOf]; omega
    · have hie : i = n := by omega
      subst hie
      have hg := HG.out
      rw [List.take_of_length_le (by rw [HN.out]; exact Nat.le_refl _)] at hg
      have HG2 := hid hg; clear hg
      go_wp2_with fail
      exact HK.out _ _ sr (by rw [HG2.out]; rfl)

set_option maxRecDepth 100000 in
set_option maxHeartbeats 4000000 in
theorem contF95_c {p : Value} {g : Int → Bool} {a : Option Addr} {n c : Nat} {ps : List Int} (hp : Rds W R 1 a n c (ivs ps)) (hn : n ≤ 4096) (hf : PredF W R 95 #[p] g) (st : St W w R)
    (K : ∀ w', St W w' R → post (.returned (.bool (ps.any g))) w') : Calls Tryz.prog 94 #[.slice a n c, .func (.func 95) #[] #[p]] w post := by
  have HK := hid K; clear K
  go_enter Tryz.func94, Tryz.ntmps94
  go_wp2_with (go_at_call 149; refine idxF95_c hp hn hf st ?_; rintro w2 r s2 hr)
  exact HK.out _ s2
end

end Go.Proofs.YtbpdchaeakihkaaGreat

/- wire: all, of nodes; of no marks, no entries. -/
namespace Go.Proofs.YtbpdchaeakihkaaGreat
open Go.RowKit Go.Qd

def allB (n : Nat) (ps : List Int) : Bool := decide (n ≤ 8) && !(ps.any fun x => !wnodeB x)
def twoI (x y : Int) : Value := .agg #[.int .i64 x, .int .i64 y]

section
variable {W w : World} {R : List HP} {post : Ending → World → Prop}

theorem run_l193 {b o : Nat} {x y : Value} (s : St W w (row b o [x, y] :: R)) : w.cell? ⟨b, o, none⟩ = some x ∧ w.cell? ⟨b, o + 1, none⟩ = some y := ⟨s.rowCell (i := 0) rfl, s.rowCell (i := 1) rfl⟩

theorem pred181 {B : Nat} : PredF W (row B 0 [Value.func (.func 143) #[] #[]] :: R) 181 #[.pointer (some ⟨B, 0, none⟩)] (fun x => !wnodeB x) := by
  intro x w1 p1 s1 K
  have HK := hid K; clear K
  have c0 := row1c s1
  go_enter Tryz.func181, Tryz.ntmps181
  go_wp2_with (go_at_call 143; refine wnode_c ?_)
  exact HK.out _ s1

set_option maxRecDepth 100000 in
set_option maxHeartbeats 4000000 in
theorem all145_c {a : Option Addr} {n c : Nat} {ps : List Int} (hp : Rds W R 1 a n c (ivs ps)) (hn : n ≤ 4096) (st : St W w R)
    (K : ∀ w', St W w' R → post (.returned (.bool (allB n ps))) w') : Calls Tryz.prog 145 #[.slice a n c, twoI 0 8, .func (.func 143) #[] #[]] w post := by
  have h0 : decide ((n : Int) < 0) = false := decide_eq_false (by omega)
  have s1 := st.alloc #[.int .i64 0, .int .i64 8] 193
  obtain ⟨c0, c1⟩ := run_l193 s1
  have s2 : St W ((w.alloc (.cells #[.int .i64 0, .int .i64 8] 193)).alloc (.cells #[.func (.func 143) #[] #[]] 113)) (row (w.heap.size + 1) 0 [Value.func (.func 143) #[] #[]] :: row w.heap.size 0 [.int .i64 0, .int .i64 8] :: R) := by
    have := s1.alloc #[.func (.func 143) #[] #[]] 113
    simpa using this
  unfold allB at K
  unfold twoI
  by_cases h8 : n ≤ 8
  · rw [decide_eq_true h8, Bool.true_and] at K
    have HK := hid K; clear K
    have h1 : decide ((8 : Int) < n) = false := decide_eq_false (by omega)
    go_enter Tryz.func145, Tryz.ntmps145
    go_wp2_with (go_at_call 94; refine contF181_c (hp.cons.cons) hn pred181 s2 ?_; rintro w3 s3)
    exact HK.out _ (s3.dropN 2)
  · rw [decide_eq_false h8, Bool.false_and] at K
    have HK := hid K; clear K
    have h1 : decide ((8 : Int) < n) = true := decide_eq_true (by omega)
    go_enter Tryz.func145, Tryz.ntmps145
    go_wp2_with fail
    exact HK.out _ (s2.dropN 2)

theorem idx200_c {a : Option Addr} {c : Nat} {v : Value} (K : post (.returned (.int .i64 (-1))) w) : Calls Tryz.prog 200 #[.slice a 0 c, v] w post := by
  have HK := hid K; clear K
  go_enter Tryz.func200, Tryz.ntmps200
  go_wp2_with fail
  go_loopw [8] (fun ii wr => ii = .int .i64 0 ∧ wr = w) (fun _ _ => 0)
  case atStart => exact ⟨rfl, rfl⟩
  case round =>
    obtain ⟨rfl, rfl⟩ := hrel
    go_wp2_with fail
    exact HK.out
theorem cont182_c {a : Option Addr} {c : Nat} {v : Value} (K : post (.returned (.bool false)) w) : Calls Tryz.prog 182 #[.slice a 0 c, v] w post := by
  have HK := hid K; clear K
  go_enter Tryz.func182, Tryz.ntmps182
  go_wp2_with (go_at_call 200; refine idx200_c ?_)
  exact HK.out

set_option maxRecDepth 100000 in
set_option maxHeartbeats 4000000 in
theorem all146_c {a : Option Addr} {n c : Nat} (st : St W w R) (K : ∀ w', St W w' R → post (.returned (.bool (decide (n = 0)))) w') : Calls Tryz.prog 146 #[.slice a n c, twoI 0 0, .func (.func 144) #[] #[]] w post := by
  have h0 : decide ((n : Int) < 0) = false := decide_eq_false (by omega)
  have s1 := st.alloc #[.int .i64 0, .int .i64 0] 193
  obtain ⟨c0, c1⟩ := run_l193 s1
  have s2 : St W ((w.alloc (.cells #[.int .i64 0, .int .i64 0] 193)).alloc (.cells #[.func (.func 144) #[] #[]] 200)) (row (w.heap.size + 1) 0 [Value.func (.func 144) #[] #[]] :: row w.heap.size 0 [.int .i64 0, .int .i64 0] :: R) := by
    have := s1.alloc #[.func (.func 144) #[] #[]] 200
    simpa using this
  unfold twoI
  by_cases h8 : n = 0
  · rw [decide_eq_true h8] at K
    have HK := hid K; clear K
    subst h8
    go_enter Tryz.func146, Tryz.ntmps146
    go_wp2_with (go_at_call 182; refine cont182_c ?_)
    exact HK.out _ (s2.dropN 2)
  · rw [decide_eq_false h8] at K
    have HK := hid K; clear K
    have h1 : decide (0 < (n : Int)) = true := decide_eq_true (by omega)
    have h2 : 0 < n := by omega
    clear h8
    go_enter Tryz.func146, Tryz.ntmps146
    go_wp2_with fail
    exact HK.out _ (s2.dropN 2)

theorem idx201_c {a : Option Addr} {c : Nat} {v : Value} (K : post (.returned (.int .i64 (-1))) w) : Calls Tryz.prog 201 #[.slice a 0 c, v] w post := by
  have HK := hid K; clear K
  go_enter Tryz.func201, Tryz.ntmps201
  go_wp2_with fail
  go_loopw [8] (fun ii wr => ii = .int .i64 0 ∧ wr = w) (fun _ _ => 0)
  case atStart => exact ⟨rfl, rfl⟩
  case round =>
    obtain ⟨rfl, rfl⟩ := hrel
    go_wp2_with fail
    exact HK.out
theorem cont184_c {a : Option Addr} {c : Nat} {v : Value} (K : post (.returned (.bool false)) w) : Calls Tryz.prog 184 #[.slice a 0 c, v] w post := by
  have HK := hid K; clear K
  go_enter Tryz.func184, Tryz.ntmps184
  go_wp2_with (go_at_call 201; refine idx201_c ?_)
  exact HK.out

set_option maxRecDepth 100000 in
set_option maxHeartbeats 4000000 in
theorem all147_c {a : Option Addr} {n c : Nat} (st : St W w R) (K : ∀ w', St W w' R → post (.returned (.bool (decide (n = 0)))) w') : Calls Tryz.prog 147 #[.slice a n c, twoI 0 0, .func (.func 148) #[] #[]] w post := by
  have h0 : decide ((n : Int) < 0) = false := decide_eq_false (by omega)
  have s1 := st.alloc #[.int .i64 0, .int .i64 0] 193
  obtain ⟨c0, c1⟩ := run_l193 s1
  have s2 : St W ((w.alloc (.cells #[.int .i64 0, .int .i64 0] 193)).alloc (.cells #[.func (.func 148) #[] #[]] 204)) (row (w.heap.size + 1) 0 [Value.func (.func 148) #[] #[]] :: row w.heap.size 0 [.int .i64 0, .int .i64 0] :: R) := by
    have := s1.alloc #[.func (.func 148) #[] #[]] 204
    simpa using this
  unfold twoI
  by_cases h8 : n = 0
  · rw [decide_eq_true h8] at K
    have HK := hid K; clear K
    subst h8
    go_enter Tryz.func147, Tryz.ntmps147
    go_wp2_with (go_at_call 184; refine cont184_c ?_)
    exact HK.out _ (s2.dropN 2)
  · rw [decide_eq_false h8] at K
    have HK := hid K; clear K
    have h1 : decide (0 < (n : Int)) = true := decide_eq_true (by omega)
    have h2 : 0 < n := by omega
    clear h8
    go_enter Tryz.func147, Tryz.ntmps147
    go_wp2_with fail
    exact HK.out _ (s2.dropN 2)
end

end Go.Proofs.YtbpdchaeakihkaaGreat
