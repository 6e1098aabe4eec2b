/- News: several texts, joined. Options of a replica: within, Check. -/
import Derived.Test.YtojfjbbggpfijaaGreatDoorRepA
import Derived.Test.YtojfjbbggpfijaaGreatDoorDsks
import Derived.Deep.RegionLaw
import Derived.Deep.DeepCutAuto
import Derived.Test.YtojfjbbggpfijaaGreatDoorLib
import Derived.Test.YtojfjbbggpfijaaGreatDoorMarkA
namespace Go.Proofs.YtojfjbbggpfijaaGreatDoor
open Go.RowKit Go.Qd

def withinB (n a b : Int) : Bool := decide (a ≤ n) && decide (n ≤ b)
/-- A replica's options. -/
structure OptV where
  nodes : Int
  quota : Int
  retain : Int
  t1 : Int
  t2 : Int
def OptV.cells (o : OptV) : List Value := [.int .i64 o.nodes, .int .i64 o.quota, .int .i64 o.retain, .int .i64 o.t1, .int .i64 o.t2]
def OptV.okB (o : OptV) : Bool := withinB o.nodes 1 12 && (withinB o.quota 1 64 && (withinB o.retain 1 o.nodes && withinB o.t1 0 2147483647))
def OptV.check (o : OptV) : Int := if o.okB = false then 14 else if (decide (o.t1 = 0) && decide (o.t2 ≠ 0)) = true then 14 else if withinB o.t2 o.t1 2147483647 = false then 14 else 0

section
variable {W w : World} {R : List HP} {post : Ending → World → Prop}

set_option maxRecDepth 100000 in
theorem within_c {n a b : Int} (K : post (.returned (.bool (withinB n a b))) w) : Calls Tryz.prog 110 #[.int .i64 n, .int .i64 a, .int .i64 b] w post := by
  obtain ⟨p, hp⟩ : ∃ p, decide (a ≤ n) = p := ⟨_, rfl⟩
  obtain ⟨q, hq⟩ : ∃ q, decide (n ≤ b) = q := ⟨_, rfl⟩
  unfold withinB at K
  rw [hp, hq] at K
  cases p with
  | false =>
    have HK := hid K; clear K
    go_enter Tryz.func110, Tryz.ntmps110
    go_wp2_with fail
    exact HK.out
  | true =>
    have HK := hid K; clear K
    go_enter Tryz.func110, Tryz.ntmps110
    go_wp2_with fail
    exact HK.out
end
end Go.Proofs.YtojfjbbggpfijaaGreatDoor

/- Options of a replica: Check. Printed by mkOptB.py. -/
namespace Go.Proofs.YtojfjbbggpfijaaGreatDoor
open Go.RowKit Go.Qd

section
variable {W w : World} {R : List HP} {post : Ending → World → Prop} {o : OptV}

theorem optRow {T : Nat} (s : St W w (row T 0 o.cells :: R)) : w.cell? ⟨T, 0, none⟩ = some (.int .i64 o.nodes) ∧ w.cell? ⟨T, 1, none⟩ = some (.int .i64 o.quota) ∧ w.cell? ⟨T, 2, none⟩ = some (.int .i64 o.retain) ∧ w.cell? ⟨T, 3, none⟩ = some (.int .i64 o.t1) ∧ w.cell? ⟨T, 4, none⟩ = some (.int .i64 o.t2) := by
  have f : ∀ i v, o.cells[i]? = some v → w.cell? ⟨T, i, none⟩ = some v := fun i v hv => by have := s.rowCell hv; rwa [Nat.zero_add] at this
  exact ⟨f 0 _ rfl, f 1 _ rfl, f 2 _ rfl, f 3 _ rfl, f 4 _ rfl⟩

set_option maxRecDepth 100000 in
set_option maxHeartbeats 2000000 in
theorem ocheck_1 (hb1 : withinB o.nodes 1 12 = false) (st : St W w R) (K : ∀ w', St W w' R → post (.returned (.int .i64 14)) w') : Calls Tryz.prog 66 #[.agg o.cells.toArray] w post := by
  have HK := hid K; clear K
  have Hb1 := hid hb1; clear hb1
  go_enter Tryz.func66, Tryz.ntmps66
  go_wp2_with (first
    | (refine wpl_boxA (vs := o.cells) rfl (.tmp 0) rfl rfl st ?_; rintro T w1 s1; obtain ⟨k0, k1, k2, k3, k4⟩ := optRow s1)
    | (go_at_call 110; refine within_c ?_; rw [Hb1.out]))
  exact HK.out _ s1.drop

set_option maxRecDepth 100000 in
set_option maxHeartbeats 2000000 in
theorem ocheck_2 (hb1 : withinB o.nodes 1 12 = true) (hb2 : withinB o.quota 1 64 = false) (st : St W w R) (K : ∀ w', St W w' R → post (.returned (.int .i64 14)) w') : Calls Tryz.prog 66 #[.agg o.cells.toArray] w post := by
  have HK := hid K; clear K
  have Hb1 := hid hb1; clear hb1
  have Hb2 := hid hb2; clear hb2
  go_enter Tryz.func66, Tryz.ntmps66
  go_wp2_with (first
    | (refine wpl_boxA (vs := o.cells) rfl (.tmp 0) rfl rfl st ?_; rintro T w1 s1; obtain ⟨k0, k1, k2, k3, k4⟩ := optRow s1)
    | (go_at_call 110; refine within_c ?_; rw [Hb1.out])
    | (go_at_call 110; refine within_c ?_; rw [Hb2.out]))
  exact HK.out _ s1.drop

set_option maxRecDepth 100000 in
set_option maxHeartbeats 2000000 in
theorem ocheck_3 (hb1 : withinB o.nodes 1 12 = true) (hb2 : withinB o.quota 1 64 = true) (hb3 : withinB o.retain 1 o.nodes = false) (st : St W w R) (K : ∀ w', St W w' R → post (.returned (.int .i64 14)) w') : Calls Tryz.prog 66 #[.agg o.cells.toArray] w post := by
  have HK := hid K; clear K
  have Hb1 := hid hb1; clear hb1
  have Hb2 := hid hb2; clear hb2
  have Hb3 := hid hb3; clear hb3
  go_enter Tryz.func66, Tryz.ntmps66
  go_wp2_with (first
    | (refine wpl_boxA (vs := o.cells) rfl (.tmp 0) rfl rfl st ?_; rintro T w1 s1; obtain ⟨k0, k1, k2, k3, k4⟩ := optRow s1)
    | (go_at_call 110; refine within_c ?_; rw [Hb1.out])
    | (go_at_call 110; refine within_c ?_; rw [Hb2.out])
    | (go_at_call 110; refine within_c ?_; rw [Hb3.out]))
  exact HK.out _ s1.drop

set_option maxRecDepth 100000 in
set_option maxHeartbeats 2000000 in
theorem ocheck_4 (hb1 : withinB o.nodes 1 12 = true) (hb2 : withinB o.quota 1 64 = true) (hb3 : withinB o.retain 1 o.nodes = true) (hb4 : withinB o.t1 0 2147483647 = false) (st : St W w R) (K : ∀ w', St W w' R → post (.returned (.int .i64 14)) w') : Calls Tryz.prog 66 #[.agg o.cells.toArray] w post := by
  have HK := hid K; clear K
  have Hb1 := hid hb1; clear hb1
  have Hb2 := hid hb2; clear hb2
  have Hb3 := hid hb3; clear hb3
  have Hb4 := hid hb4; clear hb4
  go_enter Tryz.func66, Tryz.ntmps66
  go_wp2_with (first
    | (refine wpl_boxA (vs := o.cells) rfl (.tmp 0) rfl rfl st ?_; rintro T w1 s1; obtain ⟨k0, k1, k2, k3, k4⟩ := optRow s1)
    | (go_at_call 110; refine within_c ?_; rw [Hb1.out])
    | (go_at_call 110; refine within_c ?_; rw [Hb2.out])
    | (go_at_call 110; refine within_c ?_; rw [Hb3.out])
    | (go_at_call 110; refine within_c ?_; rw [Hb4.out]))
  exact HK.out _ s1.drop

set_option maxRecDepth 100000 in
set_option maxHeartbeats 2000000 in
theorem ocheck_5 (hb1 : withinB o.nodes 1 12 = true) (hb2 : withinB o.quota 1 64 = true) (hb3 : withinB o.retain 1 o.nodes = true) (hb4 : withinB o.t1 0 2147483647 = true) (hc1 : (o.t1 == 0) = true) (hc2 : (o.t2 != 0) = true) (st : St W w R) (K : ∀ w', St W w' R → post (.returned (.int .i64 14)) w') : Calls Tryz.prog 66 #[.agg o.cells.toArray] w post := by
  have HK := hid K; clear K
  have Hb1 := hid hb1; clear hb1
  have Hb2 := hid hb2; clear hb2
  have Hb3 := hid hb3; clear hb3
  have Hb4 := hid hb4; clear hb4
  go_enter Tryz.func66, Tryz.ntmps66
  go_wp2_with (first
    | (refine wpl_boxA (vs := o.cells) rfl (.tmp 0) rfl rfl st ?_; rintro T w1 s1; obtain ⟨k0, k1, k2, k3, k4⟩ := optRow s1)
    | (go_at_call 110; refine within_c ?_; rw [Hb1.out])
    | (go_at_call 110; refine within_c ?_; rw [Hb2.out])
    | (go_at_call 110; refine within_c ?_; rw [Hb3.out])
    | (go_at_call 110; refine within_c ?_; rw [Hb4.out]))
  exact HK.out _ s1.drop

set_option maxRecDepth 100000 in
set_option maxHeartbeats 2000000 in
theorem ocheck_6 (hb1 : withinB o.nodes 1 12 = true) (hb2 : withinB o.quota 1 64 = true) (hb3 : withinB o.retain 1 o.nodes = true) (hb4 : withinB o.t1 0 2147483647 = true) (hc1 : (o.t1 == 0) = false) (hb5 : withinB o.t2 o.t1 2147483647 = false) (st : St W w R) (K : ∀ w', St W w' R → post (.returned (.int .i64 14)) w') : Calls Tryz.prog 66 #[.agg o.cells.toArray] w post := by
  have HK := hid K; clear K
  have Hb1 := hid hb1; clear hb1
  have Hb2 := hid hb2; clear hb2
  have Hb3 := hid hb3; clear hb3
  have Hb4 := hid hb4; clear hb4
  have Hb5 := hid hb5; clear hb5
  go_enter Tryz.func66, Tryz.ntmps66
  go_wp2_with (first
    | (refine wpl_boxA (vs := o.cells) rfl (.tmp 0) rfl rfl st ?_; rintro T w1 s1; obtain ⟨k0, k1, k2, k3, k4⟩ := optRow s1)
    | (go_at_call 110; refine within_c ?_; rw [Hb1.out])
    | (go_at_call 110; refine within_c ?_; rw [Hb2.out])
    | (go_at_call 110; refine within_c ?_; rw [Hb3.out])
    | (go_at_call 110; refine within_c ?_; rw [Hb4.out])
    | (go_at_call 110; refine within_c ?_; rw [Hb5.out]))
  exact HK.out _ s1.drop

set_option maxRecDepth 100000 in
set_option maxHeartbeats 2000000 in
theorem ocheck_7 (hb1 : withinB o.nodes 1 12 = true) (hb2 : withinB o.quota 1 64 = true) (hb3 : withinB o.retain 1 o.nodes = true) (hb4 : withinB o.t1 0 2147483647 = true) (hc1 : (o.t1 == 0) = false) (hb5 : withinB o.t2 o.t1 2147483647 = true) (st : St W w R) (K : ∀ w', St W w' R → post (.returned (.int .i64 0)) w') : Calls Tryz.prog 66 #[.agg o.cells.toArray] w post := by
  have HK := hid K; clear K
  have Hb1 := hid hb1; clear hb1
  have Hb2 := hid hb2; clear hb2
  have Hb3 := hid hb3; clear hb3
  have Hb4 := hid hb4; clear hb4
  have Hb5 := hid hb5; clear hb5
  go_enter Tryz.func66, Tryz.ntmps66
  go_wp2_with (first
    | (refine wpl_boxA (vs := o.cells) rfl (.tmp 0) rfl rfl st ?_; rintro T w1 s1; obtain ⟨k0, k1, k2, k3, k4⟩ := optRow s1)
    | (go_at_call 110; refine within_c ?_; rw [Hb1.out])
    | (go_at_call 110; refine within_c ?_; rw [Hb2.out])
    | (go_at_call 110; refine within_c ?_; rw [Hb3.out])
    | (go_at_call 110; refine within_c ?_; rw [Hb4.out])
    | (go_at_call 110; refine within_c ?_; rw [Hb5.out]))
  exact HK.out _ s1.drop

set_option maxRecDepth 100000 in
set_option maxHeartbeats 2000000 in
theorem ocheck_8 (hb1 : withinB o.nodes 1 12 = true) (hb2 : withinB o.quota 1 64 = true) (hb3 : withinB o.retain 1 o.nodes = true) (hb4 : withinB o.t1 0 2147483647 = true) (hc1 : (o.t1 == 0) = true) (hc2 : (o.t2 != 0) = false) (hb5 : withinB o.t2 o.t1 2147483647 = false) (st : St W w R) (K : ∀ w', St W w' R → post (.returned (.int .i64 14)) w') : Calls Tryz.prog 66 #[.agg o.cells.toArray] w post := by
  have HK := hid K; clear K
  have Hb1 := hid hb1; clear hb1
  have Hb2 := hid hb2; clear hb2
  have Hb3 := hid hb3; clear hb3
  have Hb4 := hid hb4; clear hb4
  have Hb5 := hid hb5; clear hb5
  go_enter Tryz.func66, Tryz.ntmps66
  go_wp2_with (first
    | (refine wpl_boxA (vs := o.cells) rfl (.tmp 0) rfl rfl st ?_; rintro T w1 s1; obtain ⟨k0, k1, k2, k3, k4⟩ := optRow s1)
    | (go_at_call 110; refine within_c ?_; rw [Hb1.out])
    | (go_at_call 110; refine within_c ?_; rw [Hb2.out])
    | (go_at_call 110; refine within_c ?_; rw [Hb3.out])
    | (go_at_call 110; refine within_c ?_; rw [Hb4.out])
    | (go_at_call 110; refine within_c ?_; rw [Hb5.out]))
  exact HK.out _ s1.drop

set_option maxRecDepth 100000 in
set_option maxHeartbeats 2000000 in
theorem ocheck_9 (hb1 : withinB o.nodes 1 12 = true) (hb2 : withinB o.quota 1 64 = true) (hb3 : withinB o.retain 1 o.nodes = true) (hb4 : withinB o.t1 0 2147483647 = true) (hc1 : (o.t1 == 0) = true) (hc2 : (o.t2 != 0) = false) (hb5 : withinB o.t2 o.t1 2147483647 = true) (st : St W w R) (K : ∀ w', St W w' R → post (.returned (.int .i64 0)) w') : Calls Tryz.prog 66 #[.agg o.cells.toArray] w post := by
  have HK := hid K; clear K
  have Hb1 := hid hb1; clear hb1
  have Hb2 := hid hb2; clear hb2
  have Hb3 := hid hb3; clear hb3
  have Hb4 := hid hb4; clear hb4
  have Hb5 := hid hb5; clear hb5
  go_enter Tryz.func66, Tryz.ntmps66
  go_wp2_with (first
    | (refine wpl_boxA (vs := o.cells) rfl (.tmp 0) rfl rfl st ?_; rintro T w1 s1; obtain ⟨k0, k1, k2, k3, k4⟩ := optRow s1)
    | (go_at_call 110; refine within_c ?_; rw [Hb1.out])
    | (go_at_call 110; refine within_c ?_; rw [Hb2.out])
    | (go_at_call 110; refine within_c ?_; rw [Hb3.out])
    | (go_at_call 110; refine within_c ?_; rw [Hb4.out])
    | (go_at_call 110; refine within_c ?_; rw [Hb5.out]))
  exact HK.out _ s1.drop

/-- May options be? -/
theorem ocheck_c (st : St W w R) (K : ∀ w', St W w' R → post (.returned (.int .i64 o.check)) w') : Calls Tryz.prog 66 #[.agg o.cells.toArray] w post := by
  unfold OptV.check OptV.okB at K
  have e2 : decide (o.t2 ≠ 0) = (o.t2 != 0) := by by_cases h : o.t2 = 0 <;> simp [h]
  have e1 : decide (o.t1 = 0) = (o.t1 == 0) := rfl
  rw [e1, e2] at K
  cases h1 : withinB o.nodes 1 12 with
  | false => rw [h1] at K; exact ocheck_1 h1 st K
  | true =>
    cases h2 : withinB o.quota 1 64 with
    | false => rw [h1, h2] at K; exact ocheck_2 h1 h2 st K
    | true =>
      cases h3 : withinB o.retain 1 o.nodes with
      | false => rw [h1, h2, h3] at K; exact ocheck_3 h1 h2 h3 st K
      | true =>
        cases h4 : withinB o.t1 0 2147483647 with
        | false => rw [h1, h2, h3, h4] at K; exact ocheck_4 h1 h2 h3 h4 st K
        | true =>
          rw [h1, h2, h3, h4] at K
          cases c1 : (o.t1 == 0) with
          | false =>
            rw [c1] at K
            cases h5 : withinB o.t2 o.t1 2147483647 with
            | false => rw [h5] at K; exact ocheck_6 h1 h2 h3 h4 c1 h5 st K
            | true => rw [h5] at K; exact ocheck_7 h1 h2 h3 h4 c1 h5 st K
          | true =>
            cases c2 : (o.t2 != 0) with
            | true => rw [c1, c2] at K; exact ocheck_5 h1 h2 h3 h4 c1 c2 st K
            | false =>
              rw [c1, c2] at K
              cases h5 : withinB o.t2 o.t1 2147483647 with
              | false => rw [h5] at K; exact ocheck_8 h1 h2 h3 h4 c1 c2 h5 st K
              | true => rw [h5] at K; exact ocheck_9 h1 h2 h3 h4 c1 c2 h5 st K
end
end Go.Proofs.YtojfjbbggpfijaaGreatDoor

/- What is made when a replica is opened: tables, graves, the index. -/
namespace Go.Proofs.YtojfjbbggpfijaaGreatDoor
open Go.RowKit Go.Qd

section
variable {W w : World} {R : List HP} {post : Ending → World → Prop}

set_option maxRecDepth 100000 in
theorem tnewE_c {n : Int} (h1 : 1 ≤ n) (h2 : n ≤ 4096) (st : St W w R)
    (K : ∀ b w', St W w' (TabE b 0 n [] :: R) → post (.returned (.tuple #[.pointer (some ⟨b, 0, none⟩), .int .i64 0])) w') :
    Calls Tryz.prog 69 #[.int .i64 n] w post := by
  have HK := hid K; clear K
  have d1 : decide (n < 1) = false := decide_eq_false (by omega)
  have d2 : decide (4096 < n) = false := decide_eq_false (by omega)
  go_enter Tryz.func69, Tryz.ntmps69
  go_wp2_with (first
    | (refine wpl_build rfl rfl (v := .agg [Value.int .i64 n, .slice none 0 0].toArray) (by kernel_rfl) ?_)
    | (refine wpl_boxA (vs := [Value.int .i64 n, .slice none 0 0]) rfl (.tmp 11) rfl rfl st ?_; rintro T w1 s1))
  exact HK.out _ _ (TabE.close ((OwnS.none0 (sz := 10) s1).pick 1))

set_option maxRecDepth 100000 in
theorem tnewB_c {n : Int} (h1 : 1 ≤ n) (h2 : n ≤ 4096) (st : St W w R)
    (K : ∀ b w', St W w' (TabB b 0 n [] :: R) → post (.returned (.tuple #[.pointer (some ⟨b, 0, none⟩), .int .i64 0])) w') :
    Calls Tryz.prog 70 #[.int .i64 n] w post := by
  have HK := hid K; clear K
  have d1 : decide (n < 1) = false := decide_eq_false (by omega)
  have d2 : decide (4096 < n) = false := decide_eq_false (by omega)
  go_enter Tryz.func70, Tryz.ntmps70
  go_wp2_with (first
    | (refine wpl_build rfl rfl (v := .agg [Value.int .i64 n, .slice none 0 0].toArray) (by kernel_rfl) ?_)
    | (refine wpl_boxA (vs := [Value.int .i64 n, .slice none 0 0]) rfl (.tmp 11) rfl rfl st ?_; rintro T w1 s1))
  exact HK.out _ _ (TabB.close ((OwnS.none0 (sz := 2) s1).pick 1))

set_option maxRecDepth 100000 in
theorem gnew_c {site t2 : Int} (hs : 0 ≤ site ∧ site < 12) (ht : 0 ≤ t2 ∧ t2 ≤ 2147483647) (st : St W w R)
    (K : ∀ g gp w', St W w' (row g 0 [ptrV gp, .int .i64 site, .int .i64 t2] :: TabE gp 0 4096 [] :: R) → post (.returned (.tuple #[.pointer (some ⟨g, 0, none⟩), .int .i64 0])) w') :
    Calls Tryz.prog 71 #[.int .i64 site, .int .i64 t2] w post := by
  have HK := hid K; clear K
  have d1 : decide (site < 0) = false := decide_eq_false (by omega)
  have d2 : decide (12 ≤ site) = false := decide_eq_false (by omega)
  have d3 : decide (t2 < 0) = false := decide_eq_false (by omega)
  have d4 : decide (2147483647 < t2) = false := decide_eq_false (by omega)
  go_enter Tryz.func71, Tryz.ntmps71
  go_wp2_with (first
    | (go_at_call 69; refine tnewE_c (by omega) (by omega) st ?_; rintro gp w1 s1)
    | (refine wpl_build rfl rfl (v := .agg [ptrV gp, .int .i64 site, .int .i64 t2].toArray) (by kernel_rfl) ?_)
    | (refine wpl_boxA (vs := [ptrV gp, .int .i64 site, .int .i64 t2]) rfl (.tmp 29) rfl rfl s1 ?_; rintro g w2 s2))
  exact HK.out _ _ _ s2
end
section
variable {W w : World} {R : List HP} {post : Ending → World → Prop}

theorem IOK.nil : IOK [] [] := ⟨List.nodup_nil, fun _ => rfl⟩

set_option maxRecDepth 100000 in
theorem inew_c (st : St W w R) (K : ∀ b w', St W w' (IdxH b [] :: R) → post (.returned (.pointer (some ⟨b, 0, none⟩))) w') :
    Calls Tryz.prog 68 #[] w post := by
  have HK := hid K; clear K
  have s1 := MapA.make (enc := Value.string) st
  have hmm := @run_makeMap Tryz.prog
  go_enter Tryz.func68, Tryz.ntmps68
  go_wp2_with (first
    | (refine wpl_build rfl rfl (v := .agg [Value.map (some w.heap.size), .slice none 0 0].toArray) (by kernel_rfl) ?_)
    | (refine wpl_boxA (vs := [Value.map (some w.heap.size), .slice none 0 0]) rfl (.tmp 2) rfl rfl s1 ?_; rintro T w1 s2))
  exact HK.out _ _ (IdxH.close IOK.nil ((OwnS.none0 (sz := 3) s2).perm [1, 1]))
end
end Go.Proofs.YtojfjbbggpfijaaGreatDoor

/- The replica that a disk has: Open, out of what the journal tells and what recover does. -/
namespace Go.Proofs.YtojfjbbggpfijaaGreatDoor
open Go.RowKit Go.Qd RepV

theorem optL {W w : World} {R : List HP} {T : Nat} {o : OptV} (s : St W w (row T 0 o.cells :: R)) : w.cell? ⟨T, 0, none⟩ = some (.int .i64 o.nodes) ∧ w.cell? ⟨T, 1, none⟩ = some (.int .i64 o.quota) ∧ w.cell? ⟨T, 4, none⟩ = some (.int .i64 o.t2) := by
  have f : ∀ i v, o.cells[i]? = some v → w.cell? ⟨T, i, none⟩ = some v := fun i v hv => by have := s.rowCell hv; rwa [Nat.zero_add] at this
  exact ⟨f 0 _ rfl, f 1 _ rfl, f 4 _ rfl⟩
theorem agg_opt : AggT Tryz.prog 88 5 := ⟨⟨_, Tryz.underlying88, rfl⟩, by kernel_rfl⟩
theorem opt_one (o : OptV) : ∀ u ∈ o.cells, u.oneCell' = true := by
  intro u hu; simp only [OptV.cells, List.mem_cons, List.not_mem_nil, or_false] at hu
  rcases hu with rfl | rfl | rfl | rfl | rfl <;> rfl

theorem check_ok {o : OptV} (h : o.check = 0) : (1 ≤ o.nodes ∧ o.nodes ≤ 12) ∧ (1 ≤ o.quota ∧ o.quota ≤ 64) ∧ (1 ≤ o.retain ∧ o.retain ≤ o.nodes) ∧ (0 ≤ o.t1 ∧ o.t1 ≤ 2147483647) ∧ (o.t1 ≤ o.t2 ∧ o.t2 ≤ 2147483647) ∧ (o.t1 = 0 → o.t2 = 0) := by
  unfold OptV.check at h
  split at h
  · cases h
  · rename_i h1
    split at h
    · cases h
    · rename_i h2
      split at h
      · cases h
      · rename_i h3
        unfold OptV.okB withinB at h1
        unfold withinB at h3
        simp only [Bool.not_eq_false, Bool.and_eq_true, decide_eq_true_eq, not_and] at h1 h2 h3
        refine ⟨h1.1, h1.2.1, h1.2.2.1, h1.2.2.2, h3, fun h => ?_⟩
        have := h2 h
        omega

theorem RepA.disk {W w : World} {R : List HP} {A : RAd} {r : RepV} (s : St W w (RepA A r :: R)) : St W w (DskH A.d r.d :: R) := (RepA.open.1 s).dropN 8

/-- Records in memory, each owned. -/
def RecsH (a : Option Addr) (n c : Nat) (ls : List (List UInt8)) : HP := fun h => ∃ ps : List PtV, (ps.map (·.bs) = ls) ∧ sepL (OwnS 1 a n c (ps.map PtV.cell) :: ps.map (fun x => OwnS 1 x.a x.n x.c (byC x.bs))) h

/-- The same, where each lies. -/
def RecsP (a : Option Addr) (n c : Nat) (ps : List PtV) : HP := sepL (OwnS 1 a n c (ps.map PtV.cell) :: ps.map (fun x => OwnS 1 x.a x.n x.c (byC x.bs)))
theorem RecsH.open {W w : World} {R : List HP} {a : Option Addr} {n c : Nat} {ls : List (List UInt8)} (s : St W w (RecsH a n c ls :: R)) : ∃ ps : List PtV, ps.map (·.bs) = ls ∧ St W w (RecsP a n c ps :: R) := by
  obtain ⟨ps, s⟩ := St.ex (F := fun (ps : List PtV) h => (ps.map (·.bs) = ls) ∧ sepL (OwnS 1 a n c (ps.map PtV.cell) :: ps.map (fun x => OwnS 1 x.a x.n x.c (byC x.bs))) h) s
  obtain ⟨h1, s⟩ := s.pure
  exact ⟨ps, h1, s⟩
theorem RecsH.close {W w : World} {R : List HP} {a : Option Addr} {n c : Nat} {ps : List PtV} (s : St W w (RecsP a n c ps :: R)) : St W w (RecsH a n c (ps.map (·.bs)) :: R) := s.imp fun _ x => ⟨ps, rfl, x⟩
theorem recs_rd {W : World} {R : List HP} {a : Option Addr} {n c : Nat} {ps : List PtV} : Rds W (RecsP a n c ps :: R) 1 a n c (ps.map PtV.cell) := fun _ s => OwnS.rd ((St.flat _).1 s)
theorem recs_none {W w : World} {R : List HP} (s : St W w R) : St W w (RecsH none 0 0 [] :: R) := by
  have s1 : St W w (OwnS 1 none 0 0 [] :: R) := OwnS.none0 s
  exact RecsH.close (ps := []) ((St.flat [OwnS 1 none 0 0 []]).2 s1)

section
attribute [local go_sem ↓] execOp_ldAny
variable {W w : World} {R : List HP} {post : Ending → World → Prop}

/-- The struct that is made first: options, index, journal. -/
def newC (o : OptV) (ix jb : Nat) : List Value := [.int .i64 o.nodes, .int .i64 o.quota, .int .i64 o.retain, .int .i64 o.t1, .int .i64 o.t2, .pointer none, .int .u64 0, .pointer none, .pointer none, ptrV ix, .pointer none, ptrV jb]
def buildR (x y z : Value) : Sem Value := Instr.build 116 #[(0, x), (5, y), (7, z)]
theorem execOp_buildR (ρ : Operand → Value) (dst : Option Tmp) (a c e : Operand) (ty : TypeId) (pos : String) (after : Array Edge) (guard : Option (Nat × Bool)) :
    execOp ρ { dst, op := .build 116 #[(0, a), (5, c), (7, e)], type := ty, pos, after, guard } = (do pure (.value (← buildR (ρ a) (ρ c) (ρ e)))) := by simp [execOp, buildR]
theorem run_buildR (o : OptV) (ix jb : Nat) (w : World) : (buildR (.agg o.cells.toArray) (.pointer (some ⟨ix, 0, none⟩)) (.pointer (some ⟨jb, 0, none⟩))).run Tryz.prog w = .ok (.agg (newC o ix jb).toArray) w := by kernel_rfl

/-- The journal of a disk tells these records. -/
def JOpens (d : Nat) (D D' : DskV) (ls : List (List UInt8)) : Prop :=
  ∀ (W w : World) (R : List HP) (post : Ending → World → Prop), St W w (DskH d D :: R) →
    (∀ b a n c w', St W w' (JrnH b d :: DskH d D' :: RecsH a n c ls :: R) → post (.returned (.tuple #[.pointer (some ⟨b, 0, none⟩), .slice a n c, .int .i64 0])) w') →
    Calls Tryz.prog 67 #[.pointer (some ⟨d, 0, none⟩)] w post
attribute [local go_sem ↓] execOp_buildR
attribute [local go_sem] run_buildR
set_option maxRecDepth 100000 in
set_option maxHeartbeats 16000000 in
/-- Open, out of what the journal and recover do. -/
theorem open0_g {o : OptV} {site : Int} {d : Nat} {D D' : DskV} (hc : o.check = 0) (hs : 0 ≤ site ∧ site < o.nodes)
    (HJ : JOpens d D D' [])
    (st : St W w (DskH d D :: R))
    (K1 : ∀ A w', A.d = d → St W w' (RepA A (RepV.fresh o.nodes o.quota o.retain o.t1 o.t2 site D') :: R) → post (.returned (.tuple #[.pointer (some ⟨A.p, 0, none⟩), .int .i64 0])) w') :
    Calls Tryz.prog 27 #[.int .i64 site, .agg o.cells.toArray, .pointer (some ⟨d, 0, none⟩)] w post := by
  have HK1 := hid K1; clear K1
  have HC := hid hc
  obtain ⟨o1, o2, o3, o4, o5, o6⟩ := check_ok hc
  have hroom : 1 ≤ o.nodes * o.quota ∧ o.nodes * o.quota ≤ 768 := by
    constructor
    · have := Int.mul_le_mul (a := 1) (b := 1) (c := o.nodes) (d := o.quota) o1.1 o2.1 (by omega) (by omega); omega
    · have := Int.mul_le_mul (a := o.nodes) (b := o.quota) (c := 12) (d := 64) o1.2 o2.2 (by omega) (by omega); omega
  have hw : IntKind.i64.wrap (o.nodes * o.quota) = o.nodes * o.quota := IntWalk.i64_in _ (by omega)
  have d1 : decide (site < 0) = false := decide_eq_false (by omega)
  have d2 : decide (o.nodes ≤ site) = false := decide_eq_false (by omega)
  have HHJ := hid HJ
  have HO := hid (And.intro o1 (And.intro o2 (And.intro hs (And.intro o4 (And.intro o5 hroom)))))
  obtain ⟨F, hF⟩ : ∃ F, RepV.fresh o.nodes o.quota o.retain o.t1 o.t2 site D' = F := ⟨_, rfl⟩
  have HF := hid hF
  rw [hF] at HK1
  clear hc o1 o2 o3 o4 o5 o6 hroom hs hF HJ
  go_enter Tryz.func27, Tryz.ntmps27
  go_wp2_with (first
    | (refine wpl_boxA (vs := o.cells) rfl (.tmp 1) rfl rfl st ?_; rintro T w1 s1; have lT := run_loadG agg_opt (vs := o.cells) rfl s1.rowAll)
    | (go_at_call 66; refine ocheck_c s1 ?_; rintro w2 s2; rw [HC.out]; have l0 := run_ldP (t := 3) (by kernel_rfl) (optL s2).1)
    | (go_at_call 67; refine HHJ.out _ _ _ _ (St.pick 1 s2) ?_; rintro jb ra rn rc w3 s3; obtain ⟨ps, hps, s4⟩ := RecsH.open (St.pick 2 s3); have HPS := hid hps; clear hps))
  have s5 : St W w3 (JrnH jb d :: DskH d D' :: RecsP ra rn rc ps :: row T 0 o.cells :: R) := s4.perm [1, 1]
  clear s3 s4
  go_cut [12] (fun v wx => ∃ P ix, v = .pointer (some ⟨P, 0, none⟩) ∧ St W wx (row P 0 (newC o ix jb) :: IdxH ix [] :: JrnH jb d :: DskH d D' :: RecsP ra rn rc ps :: row T 0 o.cells :: R))
  case first =>
    have u := s5.drew
    have gA := run_loadG agg_opt (vs := o.cells) rfl (St.pick 3 u).rowAll
    go_region_law (go_simp; go_at_call 68; refine inew_c u ?_; rintro ix w5 s6; have gB := run_loadG agg_opt (vs := o.cells) rfl (St.pick 4 s6).rowAll)
    all_goals
      go_wp2_with fail
      go_meet
      case rel => exact ⟨_, _, rfl, s6.alloc (newC o ix jb).toArray 116⟩
  case rest =>
  obtain ⟨P, ix, rfl, s6⟩ := hcut
  obtain ⟨rm, hrm⟩ : ∃ rm, o.nodes * o.quota = rm := ⟨_, rfl⟩
  have HRM := hid hrm
  rw [hrm] at hw
  have hOO := HO.out
  rw [hrm] at hOO
  have HO2 := hid hOO
  have hw2 : IntKind.i64.wrap (o.nodes * o.quota) = rm := by rw [hrm]; exact hw
  clear hOO hrm hw
  have l0 := run_ldP (t := 3) (by kernel_rfl) (optL (St.pick 5 s6)).1
  have l1 := run_ldP (t := 3) (by kernel_rfl) (optL (St.pick 5 s6)).2.1
  have hL : (newC o ix jb).length = 12 := rfl
  have hs12 : 0 ≤ site ∧ site < 12 := by have := HO2.out.2.2.1; have := HO2.out.1; omega
  have ht2 : 0 ≤ o.t2 ∧ o.t2 ≤ 2147483647 := by have := HO2.out.2.2.2.1; have := HO2.out.2.2.2.2.1; omega
  go_wp2_with (first
    | (go_at_call 69; refine tnewE_c HO2.out.2.2.2.2.2.1 (Int.le_trans HO2.out.2.2.2.2.2.2 (by decide)) s6 ?_; rintro tb w7 s7
       have c7 := (St.pick 1 s7).rowCell (i := 7) (v := .pointer none) rfl
       have f7 := (St.pick 1 s7).rowFree (i := 7) (by rw [hL]; decide)
       have s8 := (St.pick 1 s7).rowSet (i := 7) (by rw [hL]; decide) (.pointer (some ⟨tb, 0, none⟩))
       rw [Nat.zero_add] at c7 f7 s8)
    | (go_at_call 70; refine tnewB_c (n := 4096) (by decide) (by decide) s8 ?_; rintro ow w9 s9
       have c9 := (St.pick 1 s9).rowCell (i := 8) (v := .pointer none) rfl
       have f9 := (St.pick 1 s9).rowFree (i := 8) (by rw [List.length_set, hL]; decide)
       have sA := (St.pick 1 s9).rowSet (i := 8) (by rw [List.length_set, hL]; decide) (.pointer (some ⟨ow, 0, none⟩))
       rw [Nat.zero_add] at c9 f9 sA
       have l4 := run_ldP (t := 3) (by kernel_rfl) (optL (St.pick 7 sA)).2.2)
    | (go_at_call 71; refine gnew_c hs12 ht2 sA ?_; rintro gr gp wB sB
       have cB := (St.pick 2 sB).rowCell (i := 10) (v := .pointer none) rfl
       have fB := (St.pick 2 sB).rowFree (i := 10) (by rw [List.length_set, List.length_set, hL]; decide)
       have sC := (St.pick 2 sB).rowSet (i := 10) (by rw [List.length_set, List.length_set, hL]; decide) (.pointer (some ⟨gr, 0, none⟩))
       rw [Nat.zero_add] at cB fB sC)
    | (go_at_call 72; refine clkNew_c hs12 sC ?_; rintro ck wD sD
       have cD := (St.pick 1 sD).rowCell (i := 5) (v := .pointer none) rfl
       have fD := (St.pick 1 sD).rowFree (i := 5) (by rw [List.length_set, List.length_set, List.length_set, hL]; decide)
       have sE := (St.pick 1 sD).rowSet (i := 5) (by rw [List.length_set, List.length_set, List.length_set, hL]; decide) (.pointer (some ⟨ck, 0, none⟩))
       rw [Nat.zero_add] at cD fD sE))
  obtain ⟨A, hA⟩ : ∃ A : RAd, A = ⟨P, ck, tb, ow, ix, gr, gp, jb, d⟩ := ⟨_, rfl⟩
  obtain ⟨hAp, hAd⟩ : A.p = P ∧ A.d = d := by rw [hA]; exact ⟨rfl, rfl⟩
  have s0 : St W (wD.setCell ⟨P, 5, none⟩ (.pointer (some ⟨ck, 0, none⟩))) (RepA A F :: RecsP ra rn rc ps :: row T 0 o.cells :: R) := by
    have h := sE.perm [0, 0, 3, 2, 2]
    rw [← HF.out, hA]
    refine RepA.open.2 ?_
    have hroom : (RepV.fresh o.nodes o.quota o.retain o.t1 o.t2 site D').room = rm := HRM.out
    rw [hroom]
    exact h
  generalize wD.setCell ⟨P, 5, none⟩ (.pointer (some ⟨ck, 0, none⟩)) = w0 at s0 ⊢
  have hps0 : ps = [] := List.map_eq_nil_iff.1 HPS.out
  have hrn0 : rn = 0 := by have := (recs_rd _ (St.pick 1 s0)).len; rw [hps0] at this; simp at this; omega
  subst hps0
  subst hrn0
  have HAd := hid hAd
  clear c7 f7 s7 s8 c9 f9 s9 sA cB fB sB sC cD fD sD sE l0 l1 l4 hL hs12 ht2 hw2 s6 hA hAd
  subst hAp
  go_loopw [81] (fun ii wr => ii = .int .i64 0 ∧ St W wr (RepA A F :: RecsP ra 0 rc [] :: row T 0 o.cells :: R)) (fun _ _ => 0)
  case atStart => exact ⟨rfl, s0⟩
  case round =>
    obtain ⟨rfl, sr⟩ := hrel
    go_wp2_with fail
    exact HK1.out A _ HAd.out ((sr.perm [1, 1]).dropN 2)
/-- The journal of a disk without bytes. -/
theorem jopens0 {d : Nat} {D : DskV} (ho : DskOK D) (hof : D.off = false) (h0 : D.b = []) : JOpens d D D [] := fun _ _ _ _ st K =>
  jopen0_c ho hof h0 st (fun b w' s => K b none 0 0 w' ((recs_none s).perm [1, 1]))
theorem DskOK.new : DskOK DskV.new := ⟨by decide, by decide⟩
end
end Go.Proofs.YtojfjbbggpfijaaGreatDoor

/- The document's Check of options, the program's options. -/
namespace Go.Proofs.YtojfjbbggpfijaaGreatDoor
open Go.RowKit Go.Qd
section
variable {W w : World} {R : List HP} {post : Ending → World → Prop} {o : OptV}

set_option maxRecDepth 100000 in
/-- The program's options of the document's. -/
theorem of12_c (st : St W w R) (K : ∀ w', St W w' R → post (.returned (.agg o.cells.toArray)) w') : Calls Tryz.prog 33 #[.agg o.cells.toArray] w post := by
  have HK := hid K; clear K
  go_enter Tryz.func33, Tryz.ntmps33
  go_wp2_with (first
    | (refine wpl_boxA (vs := o.cells) rfl (.tmp 0) rfl rfl st ?_; rintro T w1 s1)
    | (refine wpl_allocA (vs := [.int .i64 0, .int .i64 0, .int .i64 0, .int .i64 0, .int .i64 0]) rfl rfl (fun _ => by kernel_rfl) s1 ?_; rintro U w2 s2; obtain ⟨k0, k1, k2, k3, k4⟩ := optRow (St.pick 1 s2))
    | (refine wpl_build rfl rfl (v := .agg o.cells.toArray) (by kernel_rfl) ?_)
    | (refine wpl_storeA (vs := o.cells) rfl (.tmp 2) (.tmp 13) (by rfl) agg_opt (by rfl) (by rfl) rfl (opt_one _) s2 rfl ?_; rintro w3 s3))
  have hL := run_loadA agg_opt (vs := o.cells) rfl s3.rowAll
  exact bodyPost_ret (v := .agg o.cells.toArray) (by simp [results, Tryz.results33, asAddr, hL, Act.put]) rfl (HK.out _ (s3.dropN 2))
end

end Go.Proofs.YtojfjbbggpfijaaGreatDoor

/- The document's clocks and graves that are made. -/
namespace Go.Proofs.YtojfjbbggpfijaaGreatDoor
open Go.RowKit Go.Qd
def siteB (n : Int) : Bool := decide (0 ≤ n) && decide (n < 12)
def two (x y : Int) : List Value := [.int .i64 x, .int .i64 y]
section
attribute [local go_sem ↓] execOp_ldAny
variable {W w : World} {R : List HP} {post : Ending → World → Prop}
theorem rsite_c {n : Int} (K : post (.returned (.bool (siteB n))) w) : Calls Tryz.prog 62 #[.int .i64 n] w post := by
  have HK := K; clear K
  unfold siteB at HK
  obtain ⟨b0, e0⟩ : ∃ b, decide (0 ≤ n) = b := ⟨_, rfl⟩
  obtain ⟨b1, e1⟩ : ∃ b, decide (n < 12) = b := ⟨_, rfl⟩
  rw [e0, e1] at HK
  cases b0 with
  | false =>
    simp only [Bool.false_and] at HK
    have HK2 := hid HK; clear HK
    go_enter Tryz.func62, Tryz.ntmps62
    go_wp2
    exact HK2.out
  | true =>
    cases b1 with
    | false =>
      simp only [Bool.true_and] at HK
      have HK2 := hid HK; clear HK
      go_enter Tryz.func62, Tryz.ntmps62
      go_wp2
      exact HK2.out
    | true =>
      simp only [Bool.true_and] at HK
      have HK2 := hid HK; clear HK
      go_enter Tryz.func62, Tryz.ntmps62
      go_wp2
      exact HK2.out

end
end Go.Proofs.YtojfjbbggpfijaaGreatDoor
