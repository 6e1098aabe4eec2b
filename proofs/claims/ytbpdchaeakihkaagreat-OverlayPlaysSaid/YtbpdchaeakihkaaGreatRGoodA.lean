/- The document's Site, Good, Later, Check; in, Has, Many. Printed by mkRGoodA.py. -/
import Derived.Test.YtbpdchaeakihkaaGreatMarks
namespace Go.Proofs.YtbpdchaeakihkaaGreat
open Go.RowKit Go.Qd

/-- A bool that the walk shall not look into. -/
def siteB (n : Int) : Bool := decide (0 ≤ n) && decide (n < 12)
def laterB (c s d t : Int) : Bool := if (c != d) = true then decide (d < c) else decide (t < s)
theorem laterB_eq (c s d t : Int) : laterB c s d t = decide (cmpS d t c s < 0) := by
  unfold laterB cmpS orI cmpI
  by_cases h : c = d
  · subst h
    have e : (c != c) = false := by simp
    rw [e]
    simp only [Int.lt_irrefl, if_false, ne_eq, not_true_eq_false, Bool.false_eq_true]
    by_cases h2 : t < s
    · rw [if_pos h2]; simp [h2]
    · rw [if_neg h2]
      by_cases h3 : s < t
      · rw [if_pos h3]; simp [h2]
      · rw [if_neg h3]; simp [h2]
  · have e : (c != d) = true := by simp [h]
    rw [e]
    simp only [if_true]
    by_cases h2 : d < c
    · rw [if_pos h2]; simp [h2]
    · rw [if_neg h2, if_pos (by omega : c < d)]; simp [h2]
def hasL (f : Nat) : List Int := if f = 0 then [2, 7] else if f = 1 then [2, 7] else if f = 2 then [3] else if f = 3 then [7, 8] else if f = 4 then [16, 17, 18, 19] else if f = 5 then [16, 17, 19] else if f = 6 then [18, 19] else if f = 7 then [11, 12, 15] else [10, 14, 15, 16, 17, 18, 19]
def hasB (k : Int) (f : Nat) : Bool := memB (hasL f) k

section
variable {W w : World} {R : List HP} {post : Ending → World → Prop}

theorem rin_c {n : Int} {ao : Option Addr} {m c : Nat} {l : List Int} (rd : RdS w 1 ao m c (ivs l)) (K : post (.returned (.bool (memB l n))) w) : Calls Tryz.prog 153 #[.int .i64 n, .slice ao m c] w post := by
  have HK := hid K; clear K
  have hz : l.length = m := by have := rd.len; rw [ivs_length] at this; omega
  have HZ := hid hz
  have hbig := rd.big
  clear hz
  go_enter Tryz.func153, Tryz.ntmps153
  go_wp2_with fail
  go_loopw [5] (fun ii wr => ∃ i : Nat, i ≤ m ∧ ii = .int .i64 i ∧ n ∉ l.take i ∧ wr = w) (fun ii _ => m - (intOf ii).toNat)
  case atStart => exact ⟨0, Nat.zero_le _, rfl, by simp, rfl⟩
  case round =>
    obtain ⟨i, hi, rfl, hm, rfl⟩ := hrel
    by_cases hlt : i < m
    · obtain ⟨g3, o3, rfl⟩ := rd.addr (by omega)
      have hiA : i < l.length := by rw [HZ.out]; exact hlt
      have ci := rd.at (ivs_get hiA)
      have hi2 : (i : Int) < (m : Int) := by omega
      have hme := List.getElem_mem hiA
      have HN := hid (fun (h2 : l[i] ≠ n) => (show n ∉ l.take (i + 1) from by rw [List.take_succ_eq_append_getElem hiA]; intro g; rcases List.mem_append.1 g with g | g; exact hm g; exact h2 (List.mem_singleton.1 g).symm))
      obtain ⟨q, hq⟩ : ∃ q, l[i] = q := ⟨_, rfl⟩
      rw [hq] at ci hme
      have HQ := hid hq
      clear hq hm rd
      by_cases hqx : q = n
      · subst hqx
        rw [memB_yes hme] at HK
        go_wp2_with fail
        exact HK.out
      · have hb : (q == n) = false := by simp [hqx]
        have HQX := hid hqx
        clear hqx
        go_wp2_with fail
        go_roundw
        case rel => exact ⟨i + 1, by omega, by go_num, HN.out (by rw [HQ.out]; exact HQX.out), by trivial⟩
        case measure => simp [intOf]; omega
    · have hie : i = m := by omega
      subst hie
      rw [List.take_of_length_le (by rw [HZ.out]; exact Nat.le_refl _)] at hm
      rw [memB_no hm] at HK
      clear hm
      go_wp2_with fail
      exact HK.out

theorem rsite_c {n : Int} (K : post (.returned (.bool (siteB n))) w) : Calls Tryz.prog 64 #[.int .i64 n] w post := by
  have HK := K; clear K
  unfold siteB at HK
  obtain ⟨b0, e0⟩ : ∃ b, decide (0 ≤ n) = b := ⟨_, rfl⟩
  obtain ⟨b1, e1⟩ : ∃ b, decide (n < 12) = b := ⟨_, rfl⟩
  rw [e0, e1] at HK
  cases b0 with
  | false =>
    simp only [Bool.false_and] at HK
    have HK2 := hid HK; clear HK
    go_enter Tryz.func64, Tryz.ntmps64
    go_wp2
    exact HK2.out
  | true =>
    cases b1 with
    | false =>
      simp only [Bool.true_and] at HK
      have HK2 := hid HK; clear HK
      go_enter Tryz.func64, Tryz.ntmps64
      go_wp2
      exact HK2.out
    | true =>
      simp only [Bool.true_and] at HK
      have HK2 := hid HK; clear HK
      go_enter Tryz.func64, Tryz.ntmps64
      go_wp2
      exact HK2.out

set_option maxRecDepth 100000 in
set_option maxHeartbeats 2000000 in
theorem rhas_c {k : Int} {f : Nat} (hf : f ≤ 8) (st : St W w R) (K : ∀ w', St W w' R → post (.returned (.bool (hasB k f))) w') : Calls Tryz.prog 108 #[.int .i64 k, .int .i64 f] w post := by
  have hcase : f = 0 ∨ f = 1 ∨ f = 2 ∨ f = 3 ∨ f = 4 ∨ f = 5 ∨ f = 6 ∨ f = 7 ∨ f = 8 := by omega
  clear hf
  rcases hcase with rfl | rfl | rfl | rfl | rfl | rfl | rfl | rfl | rfl
  · have s1 := st.alloc #[.int .i64 2, .int .i64 7] 3
    have r1 : RdS _ 1 (some ⟨w.heap.size, 0, none⟩) 2 2 (ivs [2, 7]) := St.rowRd (sz := 1) (n := 2) s1 rfl (by decide) (ivs_one [2, 7])
    rw [show ((0 : Nat) : Int) = 0 from rfl]
    have e : hasB k 0 = memB [2, 7] k := rfl
    rw [e] at K
    have HK := hid K; clear K e
    go_enter Tryz.func108, Tryz.ntmps108
    go_wp2_with (go_at_call 153; refine rin_c r1 ?_)
    exact HK.out _ s1.drop
  · have s1 := st.alloc #[.int .i64 2, .int .i64 7] 3
    have r1 : RdS _ 1 (some ⟨w.heap.size, 0, none⟩) 2 2 (ivs [2, 7]) := St.rowRd (sz := 1) (n := 2) s1 rfl (by decide) (ivs_one [2, 7])
    rw [show ((1 : Nat) : Int) = 1 from rfl]
    have e : hasB k 1 = memB [2, 7] k := rfl
    rw [e] at K
    have HK := hid K; clear K e
    go_enter Tryz.func108, Tryz.ntmps108
    go_wp2_with (go_at_call 153; refine rin_c r1 ?_)
    exact HK.out _ s1.drop
  · have e : hasB k 2 = (k == 3) := by unfold hasB hasL memB; simp; rfl
    rw [show ((2 : Nat) : Int) = 2 from rfl]
    rw [e] at K
    have HK := hid K; clear K e
    obtain ⟨z, hz⟩ : ∃ z, (k == 3) = z := ⟨_, rfl⟩
    rw [hz] at HK
    cases z with
    | true =>
      go_enter Tryz.func108, Tryz.ntmps108
      go_wp2
      exact HK.out _ st
    | false =>
      go_enter Tryz.func108, Tryz.ntmps108
      go_wp2
      exact HK.out _ st
  · have s1 := st.alloc #[.int .i64 7, .int .i64 8] 3
    have r1 : RdS _ 1 (some ⟨w.heap.size, 0, none⟩) 2 2 (ivs [7, 8]) := St.rowRd (sz := 1) (n := 2) s1 rfl (by decide) (ivs_one [7, 8])
    rw [show ((3 : Nat) : Int) = 3 from rfl]
    have e : hasB k 3 = memB [7, 8] k := rfl
    rw [e] at K
    have HK := hid K; clear K e
    go_enter Tryz.func108, Tryz.ntmps108
    go_wp2_with (go_at_call 153; refine rin_c r1 ?_)
    exact HK.out _ s1.drop
  · have s1 := st.alloc #[.int .i64 16, .int .i64 17, .int .i64 18, .int .i64 19] 3
    have r1 : RdS _ 1 (some ⟨w.heap.size, 0, none⟩) 4 4 (ivs [16, 17, 18, 19]) := St.rowRd (sz := 1) (n := 4) s1 rfl (by decide) (ivs_one [16, 17, 18, 19])
    rw [show ((4 : Nat) : Int) = 4 from rfl]
    have e : hasB k 4 = memB [16, 17, 18, 19] k := rfl
    rw [e] at K
    have HK := hid K; clear K e
    go_enter Tryz.func108, Tryz.ntmps108
    go_wp2_with (go_at_call 153; refine rin_c r1 ?_)
    exact HK.out _ s1.drop
  · have s1 := st.alloc #[.int .i64 16, .int .i64 17, .int .i64 19] 3
    have r1 : RdS _ 1 (some ⟨w.heap.size, 0, none⟩) 3 3 (ivs [16, 17, 19]) := St.rowRd (sz := 1) (n := 3) s1 rfl (by decide) (ivs_one [16, 17, 19])
    rw [show ((5 : Nat) : Int) = 5 from rfl]
    have e : hasB k 5 = memB [16, 17, 19] k := rfl
    rw [e] at K
    have HK := hid K; clear K e
    go_enter Tryz.func108, Tryz.ntmps108
    go_wp2_with (go_at_call 153; refine rin_c r1 ?_)
    exact HK.out _ s1.drop
  · have s1 := st.alloc #[.int .i64 18, .int .i64 19] 3
    have r1 : RdS _ 1 (some ⟨w.heap.size, 0, none⟩) 2 2 (ivs [18, 19]) := St.rowRd (sz := 1) (n := 2) s1 rfl (by decide) (ivs_one [18, 19])
    rw [show ((6 : Nat) : Int) = 6 from rfl]
    have e : hasB k 6 = memB [18, 19] k := rfl
    rw [e] at K
    have HK := hid K; clear K e
    go_enter Tryz.func108, Tryz.ntmps108
    go_wp2_with (go_at_call 153; refine rin_c r1 ?_)
    exact HK.out _ s1.drop
  · have s1 := st.alloc #[.int .i64 11, .int .i64 12, .int .i64 15] 3
    have r1 : RdS _ 1 (some ⟨w.heap.size, 0, none⟩) 3 3 (ivs [11, 12, 15]) := St.rowRd (sz := 1) (n := 3) s1 rfl (by decide) (ivs_one [11, 12, 15])
    rw [show ((7 : Nat) : Int) = 7 from rfl]
    have e : hasB k 7 = memB [11, 12, 15] k := rfl
    rw [e] at K
    have HK := hid K; clear K e
    go_enter Tryz.func108, Tryz.ntmps108
    go_wp2_with (go_at_call 153; refine rin_c r1 ?_)
    exact HK.out _ s1.drop
  · have s1 := st.alloc #[.int .i64 10, .int .i64 14, .int .i64 15, .int .i64 16, .int .i64 17, .int .i64 18, .int .i64 19] 3
    have r1 : RdS _ 1 (some ⟨w.heap.size, 0, none⟩) 7 7 (ivs [10, 14, 15, 16, 17, 18, 19]) := St.rowRd (sz := 1) (n := 7) s1 rfl (by decide) (ivs_one [10, 14, 15, 16, 17, 18, 19])
    rw [show ((8 : Nat) : Int) = 8 from rfl]
    have e : hasB k 8 = memB [10, 14, 15, 16, 17, 18, 19] k := rfl
    rw [e] at K
    have HK := hid K; clear K e
    go_enter Tryz.func108, Tryz.ntmps108
    go_wp2_with (go_at_call 153; refine rin_c r1 ?_)
    exact HK.out _ s1.drop

end

end Go.Proofs.YtbpdchaeakihkaaGreat
