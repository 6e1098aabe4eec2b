/- wire: all, of nodes; of no marks, no entries. -/
import Derived.Test.YtbpdchaeakihkaaGreatWireF
namespace Go.Proofs.YtbpdchaeakihkaaGreat
open Go.RowKit Go.Qd

def allB (n : Nat) (ps : List Int) : Bool := decide (n ≤ 8) && !(ps.any fun x => !wnodeB x)
def twoI (x y : Int) : Value := .agg #[.int .i64 x, .int .i64 y]

section
variable {W w : World} {R : List HP} {post : Ending → World → Prop}

theorem run_l193 {b o : Nat} {x y : Value} (s : St W w (row b o [x, y] :: R)) : w.cell? ⟨b, o, none⟩ = some x ∧ w.cell? ⟨b, o + 1, none⟩ = some y := ⟨s.rowCell (i := 0) rfl, s.rowCell (i := 1) rfl⟩

theorem pred181 {B : Nat} : PredF W (row B 0 [Value.func (.func 143) #[] #[]] :: R) 181 #[.pointer (some ⟨B, 0, none⟩)] (fun x => !wnodeB x) := by
  intro x w1 p1 s1 K
  have HK := hid K; clear K
  have c0 := row1c s1
  go_enter Tryz.func181, Tryz.ntmps181
  go_wp2_with (go_at_call 143; refine wnode_c ?_)
  exact HK.out _ s1

set_option maxRecDepth 100000 in
set_option maxHeartbeats 4000000 in
theorem all145_c {a : Option Addr} {n c : Nat} {ps : List Int} (hp : Rds W R 1 a n c (ivs ps)) (hn : n ≤ 4096) (st : St W w R)
    (K : ∀ w', St W w' R → post (.returned (.bool (allB n ps))) w') : Calls Tryz.prog 145 #[.slice a n c, twoI 0 8, .func (.func 143) #[] #[]] w post := by
  have h0 : decide ((n : Int) < 0) = false := decide_eq_false (by omega)
  have s1 := st.alloc #[.int .i64 0, .int .i64 8] 193
  obtain ⟨c0, c1⟩ := run_l193 s1
  have s2 : St W ((w.alloc (.cells #[.int .i64 0, .int .i64 8] 193)).alloc (.cells #[.func (.func 143) #[] #[]] 113)) (row (w.heap.size + 1) 0 [Value.func (.func 143) #[] #[]] :: row w.heap.size 0 [.int .i64 0, .int .i64 8] :: R) := by
    have := s1.alloc #[.func (.func 143) #[] #[]] 113
    simpa using this
  unfold allB at K
  unfold twoI
  by_cases h8 : n ≤ 8
  · rw [decide_eq_true h8, Bool.true_and] at K
    have HK := hid K; clear K
    have h1 : decide ((8 : Int) < n) = false := decide_eq_false (by omega)
    go_enter Tryz.func145, Tryz.ntmps145
    go_wp2_with (go_at_call 94; refine contF181_c (hp.cons.cons) hn pred181 s2 ?_; rintro w3 s3)
    exact HK.out _ (s3.dropN 2)
  · rw [decide_eq_false h8, Bool.false_and] at K
    have HK := hid K; clear K
    have h1 : decide ((8 : Int) < n) = true := decide_eq_true (by omega)
    go_enter Tryz.func145, Tryz.ntmps145
    go_wp2_with fail
    exact HK.out _ (s2.dropN 2)

theorem idx200_c {a : Option Addr} {c : Nat} {v : Value} (K : post (.returned (.int .i64 (-1))) w) : Calls Tryz.prog 200 #[.slice a 0 c, v] w post := by
  have HK := hid K; clear K
  go_enter Tryz.func200, Tryz.ntmps200
  go_wp2_with fail
  go_loopw [8] (fun ii wr => ii = .int .i64 0 ∧ wr = w) (fun _ _ => 0)
  case atStart => exact ⟨rfl, rfl⟩
  case round =>
    obtain ⟨rfl, rfl⟩ := hrel
    go_wp2_with fail
    exact HK.out
theorem cont182_c {a : Option Addr} {c : Nat} {v : Value} (K : post (.returned (.bool false)) w) : Calls Tryz.prog 182 #[.slice a 0 c, v] w post := by
  have HK := hid K; clear K
  go_enter Tryz.func182, Tryz.ntmps182
  go_wp2_with (go_at_call 200; refine idx200_c ?_)
  exact HK.out

set_option maxRecDepth 100000 in
set_option maxHeartbeats 4000000 in
theorem all146_c {a : Option Addr} {n c : Nat} (st : St W w R) (K : ∀ w', St W w' R → post (.returned (.bool (decide (n = 0)))) w') : Calls Tryz.prog 146 #[.slice a n c, twoI 0 0, .func (.func 144) #[] #[]] w post := by
  have h0 : decide ((n : Int) < 0) = false := decide_eq_false (by omega)
  have s1 := st.alloc #[.int .i64 0, .int .i64 0] 193
  obtain ⟨c0, c1⟩ := run_l193 s1
  have s2 : St W ((w.alloc (.cells #[.int .i64 0, .int .i64 0] 193)).alloc (.cells #[.func (.func 144) #[] #[]] 200)) (row (w.heap.size + 1) 0 [Value.func (.func 144) #[] #[]] :: row w.heap.size 0 [.int .i64 0, .int .i64 0] :: R) := by
    have := s1.alloc #[.func (.func 144) #[] #[]] 200
    simpa using this
  unfold twoI
  by_cases h8 : n = 0
  · rw [decide_eq_true h8] at K
    have HK := hid K; clear K
    subst h8
    go_enter Tryz.func146, Tryz.ntmps146
    go_wp2_with (go_at_call 182; refine cont182_c ?_)
    exact HK.out _ (s2.dropN 2)
  · rw [decide_eq_false h8] at K
    have HK := hid K; clear K
    have h1 : decide (0 < (n : Int)) = true := decide_eq_true (by omega)
    have h2 : 0 < n := by omega
    clear h8
    go_enter Tryz.func146, Tryz.ntmps146
    go_wp2_with fail
    exact HK.out _ (s2.dropN 2)

theorem idx201_c {a : Option Addr} {c : Nat} {v : Value} (K : post (.returned (.int .i64 (-1))) w) : Calls Tryz.prog 201 #[.slice a 0 c, v] w post := by
  have HK := hid K; clear K
  go_enter Tryz.func201, Tryz.ntmps201
  go_wp2_with fail
  go_loopw [8] (fun ii wr => ii = .int .i64 0 ∧ wr = w) (fun _ _ => 0)
  case atStart => exact ⟨rfl, rfl⟩
  case round =>
    obtain ⟨rfl, rfl⟩ := hrel
    go_wp2_with fail
    exact HK.out
theorem cont184_c {a : Option Addr} {c : Nat} {v : Value} (K : post (.returned (.bool false)) w) : Calls Tryz.prog 184 #[.slice a 0 c, v] w post := by
  have HK := hid K; clear K
  go_enter Tryz.func184, Tryz.ntmps184
  go_wp2_with (go_at_call 201; refine idx201_c ?_)
  exact HK.out

set_option maxRecDepth 100000 in
set_option maxHeartbeats 4000000 in
theorem all147_c {a : Option Addr} {n c : Nat} (st : St W w R) (K : ∀ w', St W w' R → post (.returned (.bool (decide (n = 0)))) w') : Calls Tryz.prog 147 #[.slice a n c, twoI 0 0, .func (.func 148) #[] #[]] w post := by
  have h0 : decide ((n : Int) < 0) = false := decide_eq_false (by omega)
  have s1 := st.alloc #[.int .i64 0, .int .i64 0] 193
  obtain ⟨c0, c1⟩ := run_l193 s1
  have s2 : St W ((w.alloc (.cells #[.int .i64 0, .int .i64 0] 193)).alloc (.cells #[.func (.func 148) #[] #[]] 204)) (row (w.heap.size + 1) 0 [Value.func (.func 148) #[] #[]] :: row w.heap.size 0 [.int .i64 0, .int .i64 0] :: R) := by
    have := s1.alloc #[.func (.func 148) #[] #[]] 204
    simpa using this
  unfold twoI
  by_cases h8 : n = 0
  · rw [decide_eq_true h8] at K
    have HK := hid K; clear K
    subst h8
    go_enter Tryz.func147, Tryz.ntmps147
    go_wp2_with (go_at_call 184; refine cont184_c ?_)
    exact HK.out _ (s2.dropN 2)
  · rw [decide_eq_false h8] at K
    have HK := hid K; clear K
    have h1 : decide (0 < (n : Int)) = true := decide_eq_true (by omega)
    have h2 : 0 < n := by omega
    clear h8
    go_enter Tryz.func147, Tryz.ntmps147
    go_wp2_with fail
    exact HK.out _ (s2.dropN 2)
end

end Go.Proofs.YtbpdchaeakihkaaGreat
