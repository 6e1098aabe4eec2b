/- News: several texts, joined. Options of a replica: within, Check. -/
import Derived.Test.YtggbeedghblakaaGreatDoorReps
import Derived.Test.YtggbeedghblakaaGreatDoorRepsM
import Derived.Test.YtggbeedghblakaaGreatDoorDsks
namespace Go.Proofs.YtggbeedghblakaaGreatDoor
open Go.RowKit Go.Qd

def withinB (n a b : Int) : Bool := decide (a ≤ n) && decide (n ≤ b)
/-- A replica's options. -/
structure OptV where
  nodes : Int
  quota : Int
  retain : Int
  t1 : Int
  t2 : Int
def OptV.cells (o : OptV) : List Value := [.int .i64 o.nodes, .int .i64 o.quota, .int .i64 o.retain, .int .i64 o.t1, .int .i64 o.t2]
def OptV.okB (o : OptV) : Bool := withinB o.nodes 1 12 && (withinB o.quota 1 64 && (withinB o.retain 1 o.nodes && withinB o.t1 0 2147483647))
def OptV.check (o : OptV) : Int := if o.okB = false then 14 else if (decide (o.t1 = 0) && decide (o.t2 ≠ 0)) = true then 14 else if withinB o.t2 o.t1 2147483647 = false then 14 else 0

section
variable {W w : World} {R : List HP} {post : Ending → World → Prop}

set_option maxRecDepth 100000 in
theorem within_c {n a b : Int} (K : post (.returned (.bool (withinB n a b))) w) : Calls Tryz.prog 104 #[.int .i64 n, .int .i64 a, .int .i64 b] w post := by
  obtain ⟨p, hp⟩ : ∃ p, decide (a ≤ n) = p := ⟨_, rfl⟩
  obtain ⟨q, hq⟩ : ∃ q, decide (n ≤ b) = q := ⟨_, rfl⟩
  unfold withinB at K
  rw [hp, hq] at K
  cases p with
  | false =>
    have HK := hid K; clear K
    go_enter Tryz.func104, Tryz.ntmps104
    go_wp2_with fail
    exact HK.out
  | true =>
    have HK := hid K; clear K
    go_enter Tryz.func104, Tryz.ntmps104
    go_wp2_with fail
    exact HK.out
end
end Go.Proofs.YtggbeedghblakaaGreatDoor

/- Options of a replica: Check. Printed by mkOptB.py. -/
namespace Go.Proofs.YtggbeedghblakaaGreatDoor
open Go.RowKit Go.Qd

section
variable {W w : World} {R : List HP} {post : Ending → World → Prop} {o : OptV}

theorem optRow {T : Nat} (s : St W w (row T 0 o.cells :: R)) : w.cell? ⟨T, 0, none⟩ = some (.int .i64 o.nodes) ∧ w.cell? ⟨T, 1, none⟩ = some (.int .i64 o.quota) ∧ w.cell? ⟨T, 2, none⟩ = some (.int .i64 o.retain) ∧ w.cell? ⟨T, 3, none⟩ = some (.int .i64 o.t1) ∧ w.cell? ⟨T, 4, none⟩ = some (.int .i64 o.t2) := by
  have f : ∀ i v, o.cells[i]? = some v → w.cell? ⟨T, i, none⟩ = some v := fun i v hv => by have := s.rowCell hv; rwa [Nat.zero_add] at this
  exact ⟨f 0 _ rfl, f 1 _ rfl, f 2 _ rfl, f 3 _ rfl, f 4 _ rfl⟩

set_option maxRecDepth 100000 in
set_option maxHeartbeats 2000000 in
theorem ocheck_1 (hb1 : withinB o.nodes 1 12 = false) (st : St W w R) (K : ∀ w', St W w' R → post (.returned (.int .i64 14)) w') : Calls Tryz.prog 42 #[.agg o.cells.toArray] w post := by
  have HK := hid K; clear K
  have Hb1 := hid hb1; clear hb1
  go_enter Tryz.func42, Tryz.ntmps42
  go_wp2_with (first
    | (refine wpl_boxA (vs := o.cells) rfl (.tmp 0) rfl rfl st ?_; rintro T w1 s1; obtain ⟨k0, k1, k2, k3, k4⟩ := optRow s1)
    | (go_at_call 104; refine within_c ?_; rw [Hb1.out]))
  exact HK.out _ s1.drop

set_option maxRecDepth 100000 in
set_option maxHeartbeats 2000000 in
theorem ocheck_2 (hb1 : withinB o.nodes 1 12 = true) (hb2 : withinB o.quota 1 64 = false) (st : St W w R) (K : ∀ w', St W w' R → post (.returned (.int .i64 14)) w') : Calls Tryz.prog 42 #[.agg o.cells.toArray] w post := by
  have HK := hid K; clear K
  have Hb1 := hid hb1; clear hb1
  have Hb2 := hid hb2; clear hb2
  go_enter Tryz.func42, Tryz.ntmps42
  go_wp2_with (first
    | (refine wpl_boxA (vs := o.cells) rfl (.tmp 0) rfl rfl st ?_; rintro T w1 s1; obtain ⟨k0, k1, k2, k3, k4⟩ := optRow s1)
    | (go_at_call 104; refine within_c ?_; rw [Hb1.out])
    | (go_at_call 104; refine within_c ?_; rw [Hb2.out]))
  exact HK.out _ s1.drop

set_option maxRecDepth 100000 in
set_option maxHeartbeats 2000000 in
theorem ocheck_3 (hb1 : withinB o.nodes 1 12 = true) (hb2 : withinB o.quota 1 64 = true) (hb3 : withinB o.retain 1 o.nodes = false) (st : St W w R) (K : ∀ w', St W w' R → post (.returned (.int .i64 14)) w') : Calls Tryz.prog 42 #[.agg o.cells.toArray] w post := by
  have HK := hid K; clear K
  have Hb1 := hid hb1; clear hb1
  have Hb2 := hid hb2; clear hb2
  have Hb3 := hid hb3; clear hb3
  go_enter Tryz.func42, Tryz.ntmps42
  go_wp2_with (first
    | (refine wpl_boxA (vs := o.cells) rfl (.tmp 0) rfl rfl st ?_; rintro T w1 s1; obtain ⟨k0, k1, k2, k3, k4⟩ := optRow s1)
    | (go_at_call 104; refine within_c ?_; rw [Hb1.out])
    | (go_at_call 104; refine within_c ?_; rw [Hb2.out])
    | (go_at_call 104; refine within_c ?_; rw [Hb3.out]))
  exact HK.out _ s1.drop

set_option maxRecDepth 100000 in
set_option maxHeartbeats 2000000 in
theorem ocheck_4 (hb1 : withinB o.nodes 1 12 = true) (hb2 : withinB o.quota 1 64 = true) (hb3 : withinB o.retain 1 o.nodes = true) (hb4 : withinB o.t1 0 2147483647 = false) (st : St W w R) (K : ∀ w', St W w' R → post (.returned (.int .i64 14)) w') : Calls Tryz.prog 42 #[.agg o.cells.toArray] w post := by
  have HK := hid K; clear K
  have Hb1 := hid hb1; clear hb1
  have Hb2 := hid hb2; clear hb2
  have Hb3 := hid hb3; clear hb3
  have Hb4 := hid hb4; clear hb4
  go_enter Tryz.func42, Tryz.ntmps42
  go_wp2_with (first
    | (refine wpl_boxA (vs := o.cells) rfl (.tmp 0) rfl rfl st ?_; rintro T w1 s1; obtain ⟨k0, k1, k2, k3, k4⟩ := optRow s1)
    | (go_at_call 104; refine within_c ?_; rw [Hb1.out])
    | (go_at_call 104; refine within_c ?_; rw [Hb2.out])
    | (go_at_call 104; refine within_c ?_; rw [Hb3.out])
    | (go_at_call 104; refine within_c ?_; rw [Hb4.out]))
  exact HK.out _ s1.drop

set_option maxRecDepth 100000 in
set_option maxHeartbeats 2000000 in
theorem ocheck_5 (hb1 : withinB o.nodes 1 12 = true) (hb2 : withinB o.quota 1 64 = true) (hb3 : withinB o.retain 1 o.nodes = true) (hb4 : withinB o.t1 0 2147483647 = true) (hc1 : (o.t1 == 0) = true) (hc2 : (o.t2 != 0) = true) (st : St W w R) (K : ∀ w', St W w' R → post (.returned (.int .i64 14)) w') : Calls Tryz.prog 42 #[.agg o.cells.toArray] w post := by
  have HK := hid K; clear K
  have Hb1 := hid hb1; clear hb1
  have Hb2 := hid hb2; clear hb2
  have Hb3 := hid hb3; clear hb3
  have Hb4 := hid hb4; clear hb4
  go_enter Tryz.func42, Tryz.ntmps42
  go_wp2_with (first
    | (refine wpl_boxA (vs := o.cells) rfl (.tmp 0) rfl rfl st ?_; rintro T w1 s1; obtain ⟨k0, k1, k2, k3, k4⟩ := optRow s1)
    | (go_at_call 104; refine within_c ?_; rw [Hb1.out])
    | (go_at_call 104; refine within_c ?_; rw [Hb2.out])
    | (go_at_call 104; refine within_c ?_; rw [Hb3.out])
    | (go_at_call 104; refine within_c ?_; rw [Hb4.out]))
  exact HK.out _ s1.drop

set_option maxRecDepth 100000 in
set_option maxHeartbeats 2000000 in
theorem ocheck_6 (hb1 : withinB o.nodes 1 12 = true) (hb2 : withinB o.quota 1 64 = true) (hb3 : withinB o.retain 1 o.nodes = true) (hb4 : withinB o.t1 0 2147483647 = true) (hc1 : (o.t1 == 0) = false) (hb5 : withinB o.t2 o.t1 2147483647 = false) (st : St W w R) (K : ∀ w', St W w' R → post (.returned (.int .i64 14)) w') : Calls Tryz.prog 42 #[.agg o.cells.toArray] w post := by
  have HK := hid K; clear K
  have Hb1 := hid hb1; clear hb1
  have Hb2 := hid hb2; clear hb2
  have Hb3 := hid hb3; clear hb3
  have Hb4 := hid hb4; clear hb4
  have Hb5 := hid hb5; clear hb5
  go_enter Tryz.func42, Tryz.ntmps42
  go_wp2_with (first
    | (refine wpl_boxA (vs := o.cells) rfl (.tmp 0) rfl rfl st ?_; rintro T w1 s1; obtain ⟨k0, k1, k2, k3, k4⟩ := optRow s1)
    | (go_at_call 104; refine within_c ?_; rw [Hb1.out])
    | (go_at_call 104; refine within_c ?_; rw [Hb2.out])
    | (go_at_call 104; refine within_c ?_; rw [Hb3.out])
    | (go_at_call 104; refine within_c ?_; rw [Hb4.out])
    | (go_at_call 104; refine within_c ?_; rw [Hb5.out]))
  exact HK.out _ s1.drop

set_option maxRecDepth 100000 in
set_option maxHeartbeats 2000000 in
theorem ocheck_7 (hb1 : withinB o.nodes 1 12 = true) (hb2 : withinB o.quota 1 64 = true) (hb3 : withinB o.retain 1 o.nodes = true) (hb4 : withinB o.t1 0 2147483647 = true) (hc1 : (o.t1 == 0) = false) (hb5 : withinB o.t2 o.t1 2147483647 = true) (st : St W w R) (K : ∀ w', St W w' R → post (.returned (.int .i64 0)) w') : Calls Tryz.prog 42 #[.agg o.cells.toArray] w post := by
  have HK := hid K; clear K
  have Hb1 := hid hb1; clear hb1
  have Hb2 := hid hb2; clear hb2
  have Hb3 := hid hb3; clear hb3
  have Hb4 := hid hb4; clear hb4
  have Hb5 := hid hb5; clear hb5
  go_enter Tryz.func42, Tryz.ntmps42
  go_wp2_with (first
    | (refine wpl_boxA (vs := o.cells) rfl (.tmp 0) rfl rfl st ?_; rintro T w1 s1; obtain ⟨k0, k1, k2, k3, k4⟩ := optRow s1)
    | (go_at_call 104; refine within_c ?_; rw [Hb1.out])
    | (go_at_call 104; refine within_c ?_; rw [Hb2.out])
    | (go_at_call 104; refine within_c ?_; rw [Hb3.out])
    | (go_at_call 104; refine within_c ?_; rw [Hb4.out])
    | (go_at_call 104; refine within_c ?_; rw [Hb5.out]))
  exact HK.out _ s1.drop

set_option maxRecDepth 100000 in
set_option maxHeartbeats 2000000 in
theorem ocheck_8 (hb1 : withinB o.nodes 1 12 = true) (hb2 : withinB o.quota 1 64 = true) (hb3 : withinB o.retain 1 o.nodes = true) (hb4 : withinB o.t1 0 2147483647 = true) (hc1 : (o.t1 == 0) = true) (hc2 : (o.t2 != 0) = false) (hb5 : withinB o.t2 o.t1 2147483647 = false) (st : St W w R) (K : ∀ w', St W w' R → post (.returned (.int .i64 14)) w') : Calls Tryz.prog 42 #[.agg o.cells.toArray] w post := by
  have HK := hid K; clear K
  have Hb1 := hid hb1; clear hb1
  have Hb2 := hid hb2; clear hb2
  have Hb3 := hid hb3; clear hb3
  have Hb4 := hid hb4; clear hb4
  have Hb5 := hid hb5; clear hb5
  go_enter Tryz.func42, Tryz.ntmps42
  go_wp2_with (first
    | (refine wpl_boxA (vs := o.cells) rfl (.tmp 0) rfl rfl st ?_; rintro T w1 s1; obtain ⟨k0, k1, k2, k3, k4⟩ := optRow s1)
    | (go_at_call 104; refine within_c ?_; rw [Hb1.out])
    | (go_at_call 104; refine within_c ?_; rw [Hb2.out])
    | (go_at_call 104; refine within_c ?_; rw [Hb3.out])
    | (go_at_call 104; refine within_c ?_; rw [Hb4.out])
    | (go_at_call 104; refine within_c ?_; rw [Hb5.out]))
  exact HK.out _ s1.drop

set_option maxRecDepth 100000 in
set_option maxHeartbeats 2000000 in
theorem ocheck_9 (hb1 : withinB o.nodes 1 12 = true) (hb2 : withinB o.quota 1 64 = true) (hb3 : withinB o.retain 1 o.nodes = true) (hb4 : withinB o.t1 0 2147483647 = true) (hc1 : (o.t1 == 0) = true) (hc2 : (o.t2 != 0) = false) (hb5 : withinB o.t2 o.t1 2147483647 = true) (st : St W w R) (K : ∀ w', St W w' R → post (.returned (.int .i64 0)) w') : Calls Tryz.prog 42 #[.agg o.cells.toArray] w post := by
  have HK := hid K; clear K
  have Hb1 := hid hb1; clear hb1
  have Hb2 := hid hb2; clear hb2
  have Hb3 := hid hb3; clear hb3
  have Hb4 := hid hb4; clear hb4
  have Hb5 := hid hb5; clear hb5
  go_enter Tryz.func42, Tryz.ntmps42
  go_wp2_with (first
    | (refine wpl_boxA (vs := o.cells) rfl (.tmp 0) rfl rfl st ?_; rintro T w1 s1; obtain ⟨k0, k1, k2, k3, k4⟩ := optRow s1)
    | (go_at_call 104; refine within_c ?_; rw [Hb1.out])
    | (go_at_call 104; refine within_c ?_; rw [Hb2.out])
    | (go_at_call 104; refine within_c ?_; rw [Hb3.out])
    | (go_at_call 104; refine within_c ?_; rw [Hb4.out])
    | (go_at_call 104; refine within_c ?_; rw [Hb5.out]))
  exact HK.out _ s1.drop

/-- May options be? -/
theorem ocheck_c (st : St W w R) (K : ∀ w', St W w' R → post (.returned (.int .i64 o.check)) w') : Calls Tryz.prog 42 #[.agg o.cells.toArray] w post := by
  unfold OptV.check OptV.okB at K
  have e2 : decide (o.t2 ≠ 0) = (o.t2 != 0) := by by_cases h : o.t2 = 0 <;> simp [h]
  have e1 : decide (o.t1 = 0) = (o.t1 == 0) := rfl
  rw [e1, e2] at K
  cases h1 : withinB o.nodes 1 12 with
  | false => rw [h1] at K; exact ocheck_1 h1 st K
  | true =>
    cases h2 : withinB o.quota 1 64 with
    | false => rw [h1, h2] at K; exact ocheck_2 h1 h2 st K
    | true =>
      cases h3 : withinB o.retain 1 o.nodes with
      | false => rw [h1, h2, h3] at K; exact ocheck_3 h1 h2 h3 st K
      | true =>
        cases h4 : withinB o.t1 0 2147483647 with
        | false => rw [h1, h2, h3, h4] at K; exact ocheck_4 h1 h2 h3 h4 st K
        | true =>
          rw [h1, h2, h3, h4] at K
          cases c1 : (o.t1 == 0) with
          | false =>
            rw [c1] at K
            cases h5 : withinB o.t2 o.t1 2147483647 with
            | false => rw [h5] at K; exact ocheck_6 h1 h2 h3 h4 c1 h5 st K
            | true => rw [h5] at K; exact ocheck_7 h1 h2 h3 h4 c1 h5 st K
          | true =>
            cases c2 : (o.t2 != 0) with
            | true => rw [c1, c2] at K; exact ocheck_5 h1 h2 h3 h4 c1 c2 st K
            | false =>
              rw [c1, c2] at K
              cases h5 : withinB o.t2 o.t1 2147483647 with
              | false => rw [h5] at K; exact ocheck_8 h1 h2 h3 h4 c1 c2 h5 st K
              | true => rw [h5] at K; exact ocheck_9 h1 h2 h3 h4 c1 c2 h5 st K
end
end Go.Proofs.YtggbeedghblakaaGreatDoor

/- What is made when a replica is opened: tables, graves, the index. -/
namespace Go.Proofs.YtggbeedghblakaaGreatDoor
open Go.RowKit Go.Qd

section
variable {W w : World} {R : List HP} {post : Ending → World → Prop}

set_option maxRecDepth 100000 in
theorem tnewE_c {n : Int} (h1 : 1 ≤ n) (h2 : n ≤ 4096) (st : St W w R)
    (K : ∀ b w', St W w' (TabE b 0 n [] :: R) → post (.returned (.tuple #[.pointer (some ⟨b, 0, none⟩), .int .i64 0])) w') :
    Calls Tryz.prog 63 #[.int .i64 n] w post := by
  have HK := hid K; clear K
  have d1 : decide (n < 1) = false := decide_eq_false (by omega)
  have d2 : decide (4096 < n) = false := decide_eq_false (by omega)
  go_enter Tryz.func63, Tryz.ntmps63
  go_wp2_with (first
    | (refine wpl_build rfl rfl (v := .agg [Value.int .i64 n, .slice none 0 0].toArray) (by kernel_rfl) ?_)
    | (refine wpl_boxA (vs := [Value.int .i64 n, .slice none 0 0]) rfl (.tmp 11) rfl rfl st ?_; rintro T w1 s1))
  exact HK.out _ _ (TabE.close ((OwnS.none0 (sz := 10) s1).pick 1))

set_option maxRecDepth 100000 in
theorem tnewB_c {n : Int} (h1 : 1 ≤ n) (h2 : n ≤ 4096) (st : St W w R)
    (K : ∀ b w', St W w' (TabB b 0 n [] :: R) → post (.returned (.tuple #[.pointer (some ⟨b, 0, none⟩), .int .i64 0])) w') :
    Calls Tryz.prog 64 #[.int .i64 n] w post := by
  have HK := hid K; clear K
  have d1 : decide (n < 1) = false := decide_eq_false (by omega)
  have d2 : decide (4096 < n) = false := decide_eq_false (by omega)
  go_enter Tryz.func64, Tryz.ntmps64
  go_wp2_with (first
    | (refine wpl_build rfl rfl (v := .agg [Value.int .i64 n, .slice none 0 0].toArray) (by kernel_rfl) ?_)
    | (refine wpl_boxA (vs := [Value.int .i64 n, .slice none 0 0]) rfl (.tmp 11) rfl rfl st ?_; rintro T w1 s1))
  exact HK.out _ _ (TabB.close ((OwnS.none0 (sz := 2) s1).pick 1))

set_option maxRecDepth 100000 in
theorem gnew_c {site t2 : Int} (hs : 0 ≤ site ∧ site < 12) (ht : 0 ≤ t2 ∧ t2 ≤ 2147483647) (st : St W w R)
    (K : ∀ g gp w', St W w' (row g 0 [ptrV gp, .int .i64 site, .int .i64 t2] :: TabE gp 0 4096 [] :: R) → post (.returned (.tuple #[.pointer (some ⟨g, 0, none⟩), .int .i64 0])) w') :
    Calls Tryz.prog 65 #[.int .i64 site, .int .i64 t2] w post := by
  have HK := hid K; clear K
  have d1 : decide (site < 0) = false := decide_eq_false (by omega)
  have d2 : decide (12 ≤ site) = false := decide_eq_false (by omega)
  have d3 : decide (t2 < 0) = false := decide_eq_false (by omega)
  have d4 : decide (2147483647 < t2) = false := decide_eq_false (by omega)
  go_enter Tryz.func65, Tryz.ntmps65
  go_wp2_with (first
    | (go_at_call 63; refine tnewE_c (by omega) (by omega) st ?_; rintro gp w1 s1)
    | (refine wpl_build rfl rfl (v := .agg [ptrV gp, .int .i64 site, .int .i64 t2].toArray) (by kernel_rfl) ?_)
    | (refine wpl_boxA (vs := [ptrV gp, .int .i64 site, .int .i64 t2]) rfl (.tmp 29) rfl rfl s1 ?_; rintro g w2 s2))
  exact HK.out _ _ _ s2
end
end Go.Proofs.YtggbeedghblakaaGreatDoor

/- The index that is made. -/
namespace Go.Proofs.YtggbeedghblakaaGreatDoor
open Go.RowKit Go.Qd

section
variable {W w : World} {R : List HP} {post : Ending → World → Prop}

theorem IOK.nil : IOK [] [] := ⟨List.nodup_nil, fun _ => rfl⟩

set_option maxRecDepth 100000 in
theorem inew_c (st : St W w R) (K : ∀ b w', St W w' (IdxH b [] :: R) → post (.returned (.pointer (some ⟨b, 0, none⟩))) w') :
    Calls Tryz.prog 62 #[] w post := by
  have HK := hid K; clear K
  have s1 := MapA.make (enc := Value.string) st
  have hmm := @run_makeMap Tryz.prog
  go_enter Tryz.func62, Tryz.ntmps62
  go_wp2_with (first
    | (refine wpl_build rfl rfl (v := .agg [Value.map (some w.heap.size), .slice none 0 0].toArray) (by kernel_rfl) ?_)
    | (refine wpl_boxA (vs := [Value.map (some w.heap.size), .slice none 0 0]) rfl (.tmp 2) rfl rfl s1 ?_; rintro T w1 s2))
  exact HK.out _ _ (IdxH.close IOK.nil ((OwnS.none0 (sz := 3) s2).perm [1, 1]))
end
end Go.Proofs.YtggbeedghblakaaGreatDoor
