/- Dsks: several texts, joined. The disk: use, do, Append, Sync, Read. Printed by mkDskA.py. -/
import Derived.Test.YtojfjbbggpfijaaGreatDoorOcts
import Derived.Test.YtojfjbbggpfijaaGreatDoorKeys
import Derived.Test.YtojfjbbggpfijaaGreatDoorLib
import Derived.Test.YtojfjbbggpfijaaGreatDoorMarkA
import Derived.Test.YtojfjbbggpfijaaGreatDoorCrcs
namespace Go.Proofs.YtojfjbbggpfijaaGreatDoor
open Go.RowKit Go.Qd

section
variable {W w : World} {R : List HP} {post : Ending → World → Prop} {b : Nat} {D : DskV}

def dkC (D : DskV) (x y : Value) : List Value := [.bool D.off, .int .i64 D.left, x, y]
theorem dkRow {x y : Value} (s : St W w (row b 0 (dkC D x y) :: R)) : w.cell? ⟨b, 0, none⟩ = some (.bool D.off) ∧ w.cell? ⟨b, 1, none⟩ = some (.int .i64 D.left) ∧ w.cell? ⟨b, 2, none⟩ = some x ∧ w.cell? ⟨b, 3, none⟩ = some y ∧
    w.frozen? ⟨b, 0, none⟩ = false ∧ w.frozen? ⟨b, 1, none⟩ = false ∧ w.frozen? ⟨b, 2, none⟩ = false ∧ w.frozen? ⟨b, 3, none⟩ = false := by
  have f : ∀ i v, (dkC D x y)[i]? = some v → w.cell? ⟨b, i, none⟩ = some v := fun i v hv => by have := s.rowCell hv; rwa [Nat.zero_add] at this
  have g : ∀ i, i < 4 → w.frozen? ⟨b, i, none⟩ = false := fun i hi => by have := s.rowFree (i := i) (by simpa [dkC] using hi); rwa [Nat.zero_add] at this
  exact ⟨f 0 _ rfl, f 1 _ rfl, f 2 _ rfl, f 3 _ rfl, g 0 (by decide), g 1 (by decide), g 2 (by decide), g 3 (by decide)⟩

set_option maxRecDepth 100000 in
theorem use_c {x y : Value} (hl : -1 ≤ D.left ∧ D.left ≤ 9223372036854775807) (ho : D.off = false) (st : St W w (row b 0 (dkC D x y) :: R))
    (K : ∀ w', St W w' (row b 0 (dkC D.used x y) :: R) → post (.returned (.bool (!decide (D.left = 0)))) w') :
    Calls Tryz.prog 190 #[.pointer (some ⟨b, 0, none⟩)] w post := by
  have HK := hid K; clear K
  obtain ⟨c0, c1, c2, c3, f0, f1, f2, f3⟩ := dkRow st
  by_cases h0 : D.left = 0
  · have hu : D.used = { D with off := true } := by unfold DskV.used; rw [if_pos h0]
    rw [hu, decide_eq_true h0] at HK
    rw [h0] at c1
    have s2 : St W (w.setCell ⟨b, 0, none⟩ (.bool true)) (row b 0 (dkC { D with off := true } x y) :: R) := st.rowSet (i := 0) (by simp [dkC]) (.bool true)
    clear hu h0
    go_enter Tryz.func190, Tryz.ntmps190
    go_wp2_with fail
    exact HK.out _ s2
  · rw [decide_eq_false h0] at HK
    have hb : (D.left == 0) = false := by simp [h0]
    by_cases h1 : 0 < D.left
    · have hu : D.used = { D with left := D.left - 1 } := by unfold DskV.used; rw [if_neg h0, if_pos h1]
      rw [hu] at HK
      have hw : IntKind.i64.wrap (D.left - 1) = D.left - 1 := IntWalk.i64_in _ (by omega)
      have h1' : decide (0 < D.left) = true := decide_eq_true h1
      have s2 : St W (w.setCell ⟨b, 1, none⟩ (.int .i64 (D.left - 1))) (row b 0 (dkC { D with left := D.left - 1 } x y) :: R) := by
        have := st.rowSet (i := 1) (by simp [dkC]) (.int .i64 (D.left - 1)); rwa [Nat.zero_add] at this
      clear hu h0 h1
      go_enter Tryz.func190, Tryz.ntmps190
      go_wp2_with fail
      exact HK.out _ s2
    · have hu : D.used = D := by unfold DskV.used; rw [if_neg h0, if_neg h1]
      rw [hu] at HK
      have h1' : decide (0 < D.left) = false := decide_eq_false h1
      clear hu h0 h1
      go_enter Tryz.func190, Tryz.ntmps190
      go_wp2_with fail
      exact HK.out _ st

theorem unless_c {so : Bool} {c : Int} (K : post (.returned (.int .i64 (if so = true then 0 else c))) w) : Calls Tryz.prog 160 #[.bool so, .int .i64 c] w post := by
  have HK := hid K; clear K
  cases so with
  | true =>
    go_enter Tryz.func160, Tryz.ntmps160
    go_wp2_with fail
    exact HK.out
  | false =>
    go_enter Tryz.func160, Tryz.ntmps160
    go_wp2_with fail
    exact HK.out

/-- What a call leaves that does no change. -/
def DskV.left0 (D : DskV) (wrong : Int) : DskV := if D.off = true ∨ wrong ≠ 0 then D else D.used

set_option maxRecDepth 100000 in
set_option maxHeartbeats 2000000 in
theorem doA_c {x y : Value} {wrong : Int} {caps : Array Value} (hl : -1 ≤ D.left ∧ D.left ≤ 9223372036854775807) (st : St W w (row b 0 (dkC D x y) :: R))
    (hch : D.code wrong = 0 → ∀ w1, St W w1 (row b 0 (dkC D.used x y) :: R) → Calls Tryz.prog 210 caps w1 (fun e w2 => e = .returned (.tuple #[]) ∧ post (.returned (.int .i64 0)) w2))
    (hno : D.code wrong ≠ 0 → ∀ w1, St W w1 (row b 0 (dkC (D.left0 wrong) x y) :: R) → post (.returned (.int .i64 (D.code wrong))) w1) :
    Calls Tryz.prog 159 #[.pointer (some ⟨b, 0, none⟩), .int .i64 wrong, .func (.func 210) #[] caps] w post := by
  have HC := hid hch; have HN := hid hno
  clear hch hno
  obtain ⟨c0, c1, c2, c3, f0, f1, f2, f3⟩ := dkRow st
  cases ho : D.off with
  | true =>
    have hc : D.code wrong = 11 := by unfold DskV.code; rw [if_pos ho]
    have h0 : D.left0 wrong = D := by unfold DskV.left0; rw [if_pos (.inl ho)]
    have HK := hid (HN.out (by rw [hc]; decide) w (by rw [h0]; exact st))
    rw [hc] at HK
    rw [ho] at c0
    clear HC HN hc h0 ho
    go_enter Tryz.func159, Tryz.ntmps159
    go_wp2_with fail
    exact HK.out
  | false =>
    rw [ho] at c0
    by_cases hw : wrong = 0
    · subst hw
      have HOF := hid ho
      by_cases h0 : D.left = 0
      · have hc : D.code 0 = 11 := by unfold DskV.code; rw [if_neg (by rw [ho]; decide), if_neg (by simp), if_pos h0]
        have h1 : D.left0 0 = D.used := by unfold DskV.left0; rw [if_neg (by simp [ho])]
        have hd : decide (D.left = 0) = true := decide_eq_true h0
        have HK := hid (fun w1 s => HN.out (by rw [hc]; decide) w1 (by rw [h1]; exact s))
        rw [hc] at HK
        have HD := hid hd
        clear HC HN hc h1 ho h0 hd
        go_enter Tryz.func159, Tryz.ntmps159
        go_wp2_with (go_at_call 190; refine use_c hl HOF.out st ?_; rintro w1 s1; rw [HD.out])
        exact HK.out _ s1
      · have hc : D.code 0 = 0 := by unfold DskV.code; rw [if_neg (by rw [ho]; decide), if_neg (by simp), if_neg h0]
        have hd : decide (D.left = 0) = false := decide_eq_false h0
        have HK := hid (HC.out hc)
        have HD := hid hd
        clear HC HN hc ho h0 hd
        go_enter Tryz.func159, Tryz.ntmps159
        go_wp2_with (first
          | (go_at_call 190; refine use_c hl HOF.out st ?_; rintro w1 s1; rw [HD.out])
          | (go_at_call 210; refine (HK.out _ s1).mono ?_; rintro e w2 ⟨rfl, hp⟩))
        exact hp
    · have hb : (wrong != 0) = true := by simp [hw]
      have hc : D.code wrong = wrong := by unfold DskV.code; rw [if_neg (by rw [ho]; decide), if_pos hw]
      have h0 : D.left0 wrong = D := by unfold DskV.left0; rw [if_pos (.inr hw)]
      have HK := hid (HN.out (by rw [hc]; exact hw) w (by rw [h0]; exact st))
      rw [hc] at HK
      clear HC HN hc h0 ho hw
      go_enter Tryz.func159, Tryz.ntmps159
      go_wp2_with fail
      exact HK.out

set_option maxRecDepth 100000 in
set_option maxHeartbeats 2000000 in
theorem doS_c {x y : Value} {wrong : Int} {caps : Array Value} (hl : -1 ≤ D.left ∧ D.left ≤ 9223372036854775807) (st : St W w (row b 0 (dkC D x y) :: R))
    (hch : D.code wrong = 0 → ∀ w1, St W w1 (row b 0 (dkC D.used x y) :: R) → Calls Tryz.prog 211 caps w1 (fun e w2 => e = .returned (.tuple #[]) ∧ post (.returned (.int .i64 0)) w2))
    (hno : D.code wrong ≠ 0 → ∀ w1, St W w1 (row b 0 (dkC (D.left0 wrong) x y) :: R) → post (.returned (.int .i64 (D.code wrong))) w1) :
    Calls Tryz.prog 159 #[.pointer (some ⟨b, 0, none⟩), .int .i64 wrong, .func (.func 211) #[] caps] w post := by
  have HC := hid hch; have HN := hid hno
  clear hch hno
  obtain ⟨c0, c1, c2, c3, f0, f1, f2, f3⟩ := dkRow st
  cases ho : D.off with
  | true =>
    have hc : D.code wrong = 11 := by unfold DskV.code; rw [if_pos ho]
    have h0 : D.left0 wrong = D := by unfold DskV.left0; rw [if_pos (.inl ho)]
    have HK := hid (HN.out (by rw [hc]; decide) w (by rw [h0]; exact st))
    rw [hc] at HK
    rw [ho] at c0
    clear HC HN hc h0 ho
    go_enter Tryz.func159, Tryz.ntmps159
    go_wp2_with fail
    exact HK.out
  | false =>
    rw [ho] at c0
    by_cases hw : wrong = 0
    · subst hw
      have HOF := hid ho
      by_cases h0 : D.left = 0
      · have hc : D.code 0 = 11 := by unfold DskV.code; rw [if_neg (by rw [ho]; decide), if_neg (by simp), if_pos h0]
        have h1 : D.left0 0 = D.used := by unfold DskV.left0; rw [if_neg (by simp [ho])]
        have hd : decide (D.left = 0) = true := decide_eq_true h0
        have HK := hid (fun w1 s => HN.out (by rw [hc]; decide) w1 (by rw [h1]; exact s))
        rw [hc] at HK
        have HD := hid hd
        clear HC HN hc h1 ho h0 hd
        go_enter Tryz.func159, Tryz.ntmps159
        go_wp2_with (go_at_call 190; refine use_c hl HOF.out st ?_; rintro w1 s1; rw [HD.out])
        exact HK.out _ s1
      · have hc : D.code 0 = 0 := by unfold DskV.code; rw [if_neg (by rw [ho]; decide), if_neg (by simp), if_neg h0]
        have hd : decide (D.left = 0) = false := decide_eq_false h0
        have HK := hid (HC.out hc)
        have HD := hid hd
        clear HC HN hc ho h0 hd
        go_enter Tryz.func159, Tryz.ntmps159
        go_wp2_with (first
          | (go_at_call 190; refine use_c hl HOF.out st ?_; rintro w1 s1; rw [HD.out])
          | (go_at_call 211; refine (HK.out _ s1).mono ?_; rintro e w2 ⟨rfl, hp⟩))
        exact hp
    · have hb : (wrong != 0) = true := by simp [hw]
      have hc : D.code wrong = wrong := by unfold DskV.code; rw [if_neg (by rw [ho]; decide), if_pos hw]
      have h0 : D.left0 wrong = D := by unfold DskV.left0; rw [if_pos (.inr hw)]
      have HK := hid (HN.out (by rw [hc]; exact hw) w (by rw [h0]; exact st))
      rw [hc] at HK
      clear HC HN hc h0 ho hw
      go_enter Tryz.func159, Tryz.ntmps159
      go_wp2_with fail
      exact HK.out

theorem boxOne {P : Nat} {x : Value} (s : St W w (row P 0 [x] :: R)) : w.cell? ⟨P, 0, none⟩ = some x := s.rowCell (i := 0) rfl

set_option maxRecDepth 100000 in
set_option maxHeartbeats 2000000 in
theorem apF_c {P Q : Nat} {y : Value} {a xa : Option Addr} {n c xn xc : Nat} {B bs : List UInt8} (hp : Rds W R 1 xa xn xc (byC bs)) (hn : n ≤ 1048576) (hx : xn ≤ 1048576)
    (st : St W w (row b 0 (dkC D (.slice a n c) y) :: OwnS 1 a n c (byC B) :: row Q 0 [.slice xa xn xc] :: row P 0 [.pointer (some ⟨b, 0, none⟩)] :: R))
    (K : ∀ a' c' w', St W w' (row b 0 (dkC D (.slice a' (n + xn) c') y) :: OwnS 1 a' (n + xn) c' (byC (B ++ bs)) :: row Q 0 [.slice xa xn xc] :: row P 0 [.pointer (some ⟨b, 0, none⟩)] :: R) → post (.returned (.tuple #[])) w') :
    Calls Tryz.prog 210 #[.pointer (some ⟨P, 0, none⟩), .pointer (some ⟨Q, 0, none⟩)] w post := by
  have HK := hid K; clear K
  have s1 := st.drew
  obtain ⟨c0, c1, c2, c3, f0, f1, f2, f3⟩ := dkRow s1
  have d0 := boxOne (St.pick 2 s1)
  have d1 := boxOne (St.pick 3 s1)
  have rx := hp.cons.cons.cons.cons _ s1
  have s2 := St.pick 1 s1
  go_enter Tryz.func210, Tryz.ntmps210
  go_region_law (refine step_append_st rfl (.tmp 6) (.tmp 7) rfl Tryz.elem163 rfl rfl s2 rx (by omega) (by unfold maxLen; omega) ?_; rintro a3 c3' w3 s3; rw [← byC_app] at s3; obtain ⟨k0, k1, k2, k3, l0, l1, l2, l3⟩ := dkRow (St.pick 1 s3); have m0 := boxOne (St.pick 2 s3); have m1 := boxOne (St.pick 3 s3))
  all_goals
    go_wp2_with fail
    go_end0
    have s4 := (St.pick 1 s3).rowSet (i := 2) (by simp [dkC]) (.slice a3 (n + xn) c3')
    rw [Nat.zero_add] at s4
    exact HK.out _ _ _ s4

set_option maxRecDepth 100000 in
set_option maxHeartbeats 2000000 in
theorem syF_c {P : Nat} {y : Value} {a : Option Addr} {n c : Nat} {B : List UInt8} (_hn : n ≤ 9223372036854775807) (st : St W w (row b 0 (dkC D (.slice a n c) y) :: OwnS 1 a n c (byC B) :: row P 0 [.pointer (some ⟨b, 0, none⟩)] :: R))
    (K : ∀ w', St W w' (row b 0 (dkC D (.slice a n c) (.int .i64 n)) :: OwnS 1 a n c (byC B) :: row P 0 [.pointer (some ⟨b, 0, none⟩)] :: R) → post (.returned (.tuple #[])) w') :
    Calls Tryz.prog 211 #[.pointer (some ⟨P, 0, none⟩)] w post := by
  have HK := hid K; clear K
  have s1 := st.drew
  obtain ⟨c0, c1, c2, c3, f0, f1, f2, f3⟩ := dkRow s1
  have d1 := boxOne (St.pick 2 s1)
  have s4 := s1.rowSet (i := 3) (by simp [dkC]) (.int .i64 n)
  rw [Nat.zero_add] at s4
  go_enter Tryz.func211, Tryz.ntmps211
  go_region_law (fail)
  all_goals
    go_wp2_with fail
    go_end0
    exact HK.out _ s4
end
end Go.Proofs.YtojfjbbggpfijaaGreatDoor

/- The disk: Append, Sync, Read, New. -/
namespace Go.Proofs.YtojfjbbggpfijaaGreatDoor
open Go.RowKit Go.Qd

/-- A disk in memory. -/
def DskH (b : Nat) (D : DskV) : HP := fun h => ∃ x : Option Addr × Nat × Nat, sepL [row b 0 (dkC D (.slice x.1 x.2.1 x.2.2) (.int .i64 D.safe)), OwnS 1 x.1 x.2.1 x.2.2 (byC D.b)] h
structure DskOK (D : DskV) : Prop where
  left : -1 ≤ D.left ∧ D.left ≤ 9223372036854775807
  len : D.b.length ≤ 1048576

theorem used_b (D : DskV) : D.used.b = D.b ∧ D.used.safe = D.safe := by unfold DskV.used; split <;> (try split) <;> exact ⟨rfl, rfl⟩
theorem DskOK.used {D : DskV} (h : DskOK D) : DskOK D.used := by
  refine ⟨?_, by rw [(used_b D).1]; exact h.len⟩
  have := h.left
  unfold DskV.used
  split
  · exact this
  · split
    · show -1 ≤ D.left - 1 ∧ D.left - 1 ≤ _; omega
    · exact this
theorem left0_cases (D : DskV) (c : Int) : D.left0 c = D ∨ D.left0 c = D.used := by unfold DskV.left0; split <;> simp
theorem append_no {D : DskV} {x : List UInt8} (h : D.code (D.appendW x.length) ≠ 0) : D.append x = D.left0 (D.appendW x.length) := by unfold DskV.append DskV.left0; rw [if_neg h]
theorem append_yes {D : DskV} {x : List UInt8} (h : D.code (D.appendW x.length) = 0) : D.append x = { D.used with b := D.b ++ x } := by unfold DskV.append; rw [if_pos h]
theorem code_wrong {D : DskV} {c : Int} (h : D.code c = 0) : c = 0 := by
  unfold DskV.code at h
  split at h
  · cases h
  · split at h
    · rename_i h2; exact absurd h h2
    · rename_i h2; exact Classical.byContradiction fun h3 => h2 h3
theorem DskOK.append {D : DskV} (h : DskOK D) (x : List UInt8) : DskOK (D.append x) := by
  by_cases hc : D.code (D.appendW x.length) = 0
  · rw [append_yes hc]
    refine ⟨h.used.left, ?_⟩
    have h0 := code_wrong hc
    unfold DskV.appendW at h0
    show (D.b ++ x).length ≤ _
    rw [List.length_append]
    split at h0
    · omega
    · cases h0
  · rw [append_no hc]
    rcases left0_cases D (D.appendW x.length) with e | e <;> rw [e]
    · exact h
    · exact h.used
theorem sync_no {D : DskV} (h : D.code 0 ≠ 0) : D.sync = D.left0 0 := by unfold DskV.sync DskV.left0; rw [if_neg h]; simp
theorem sync_yes {D : DskV} (h : D.code 0 = 0) : D.sync = { D.used with safe := D.b.length } := by unfold DskV.sync; rw [if_pos h]
theorem DskOK.sync {D : DskV} (h : DskOK D) : DskOK D.sync := by
  by_cases hc : D.code 0 = 0
  · rw [sync_yes hc]; exact ⟨h.used.left, h.used.len⟩
  · rw [sync_no hc]
    rcases left0_cases D 0 with e | e <;> rw [e]
    · exact h
    · exact h.used

section
variable {W w : World} {R : List HP} {post : Ending → World → Prop} {b : Nat} {D : DskV}
theorem DskH.open (st : St W w (DskH b D :: R)) : ∃ ao n c, St W w (row b 0 (dkC D (.slice ao n c) (.int .i64 D.safe)) :: OwnS 1 ao n c (byC D.b) :: R) := by
  obtain ⟨x, s⟩ := St.ex (F := fun (x : Option Addr × Nat × Nat) h => sepL [row b 0 (dkC D (.slice x.1 x.2.1 x.2.2) (.int .i64 D.safe)), OwnS 1 x.1 x.2.1 x.2.2 (byC D.b)] h) st
  exact ⟨_, _, _, (St.flat _).1 s⟩
theorem DskH.close {ao : Option Addr} {n c : Nat} (st : St W w (row b 0 (dkC D (.slice ao n c) (.int .i64 D.safe)) :: OwnS 1 ao n c (byC D.b) :: R)) : St W w (DskH b D :: R) :=
  ((St.flat [row b 0 (dkC D (.slice ao n c) (.int .i64 D.safe)), OwnS 1 ao n c (byC D.b)]).2 st).imp fun _ x => ⟨(ao, n, c), x⟩

attribute [local go_sem ↓] execOp_ldAny

set_option maxRecDepth 100000 in
set_option maxHeartbeats 4000000 in
theorem append_c {xa : Option Addr} {xn xc : Nat} {bs : List UInt8} (ho : DskOK D) (hp : Rds W R 1 xa xn xc (byC bs)) (hx : xn ≤ 1048576) (st : St W w (DskH b D :: R))
    (K : ∀ w', St W w' (DskH b (D.append bs) :: R) → post (.returned (.int .i64 (D.code (D.appendW bs.length)))) w') :
    Calls Tryz.prog 185 #[.pointer (some ⟨b, 0, none⟩), .slice xa xn xc] w post := by
  have HK := hid K; clear K
  obtain ⟨a, n, c, s⟩ := DskH.open st
  have hn : n = D.b.length := by have := (OwnS.rd (St.pick 1 s)).len; rw [byC_len] at this; omega
  have hxl : xn = bs.length := by have := (hp w st.drop).len; rw [byC_len] at this; omega
  have hn2 : n ≤ 1048576 := by rw [hn]; exact ho.len
  have HN := hid hn; have HXL := hid hxl
  have s1 := s.alloc #[.pointer (some ⟨b, 0, none⟩)] 90
  have s2 := s1.alloc #[.slice xa xn xc] 163
  obtain ⟨P, hP⟩ : ∃ P, w.heap.size = P := ⟨_, rfl⟩
  obtain ⟨Q, hQ⟩ : ∃ Q, (w.alloc (.cells #[.pointer (some ⟨b, 0, none⟩)] 90)).heap.size = Q := ⟨_, rfl⟩
  rw [hP] at s2
  rw [hQ] at s2
  have hQ2 : w.heap.size + 1 = Q := by rw [← hQ]; simp
  have s3 : St W _ (row b 0 (dkC D (.slice a n c) (.int .i64 D.safe)) :: OwnS 1 a n c (byC D.b) :: row Q 0 [.slice xa xn xc] :: row P 0 [.pointer (some ⟨b, 0, none⟩)] :: R) := s2.perm [2, 2, 0, 0]
  have hwr : IntKind.i64.wrap (1048576 - (n : Int)) = 1048576 - (n : Int) := IntWalk.i64_in _ (by omega)
  clear hn hxl s1 s2 hQ
  generalize hw2 : (w.alloc (.cells #[.pointer (some ⟨b, 0, none⟩)] 90)).alloc (.cells #[.slice xa xn xc] 163) = w2 at s3
  go_enter Tryz.func185, Tryz.ntmps185
  go_wp2_with fail
  try simp only [Act.put, List.setIfInBounds_toArray, List.set_cons_succ, List.set_cons_zero]
  try rw [hw2]
  have HW : Hid ((if decide ((xn : Int) ≤ 1048576 - (n : Int)) = true then 0 else 7) = D.appendW bs.length) := hid (by
    unfold DskV.appendW
    rw [HN.out, HXL.out]
    simp only [decide_eq_true_eq]
    by_cases h : bs.length + D.b.length ≤ 1048576
    · rw [if_pos h, if_pos (by omega)]
    · rw [if_neg h, if_neg (by omega)])
  have hN : Nonempty (Cls fun w' => St W w' (row b 0 (dkC D (.slice a n c) (.int .i64 D.safe)) :: OwnS 1 a n c (byC D.b) :: row Q 0 [.slice xa xn xc] :: row P 0 [.pointer (some ⟨b, 0, none⟩)] :: R)) := Cls.inh s3
  have f0 : ∀ s : Cls (fun w' => St W w' (row b 0 (dkC D (.slice a n c) (.int .i64 D.safe)) :: OwnS 1 a n c (byC D.b) :: row Q 0 [.slice xa xn xc] :: row P 0 [.pointer (some ⟨b, 0, none⟩)] :: R)), (loadG 90 (.pointer (some ⟨P, 0, none⟩))).run Tryz.prog s.w = .ok (.pointer (some ⟨b, 0, none⟩)) s.w := fun s => run_ldP (by kernel_rfl) (boxOne (St.pick 3 s.h))
  have f1 : ∀ s : Cls (fun w' => St W w' (row b 0 (dkC D (.slice a n c) (.int .i64 D.safe)) :: OwnS 1 a n c (byC D.b) :: row Q 0 [.slice xa xn xc] :: row P 0 [.pointer (some ⟨b, 0, none⟩)] :: R)), (loadG 163 (.pointer (some ⟨Q, 0, none⟩))).run Tryz.prog s.w = .ok (.slice xa xn xc) s.w := fun s => run_ldP (by kernel_rfl) (boxOne (St.pick 2 s.h))
  have f2 : ∀ s : Cls (fun w' => St W w' (row b 0 (dkC D (.slice a n c) (.int .i64 D.safe)) :: OwnS 1 a n c (byC D.b) :: row Q 0 [.slice xa xn xc] :: row P 0 [.pointer (some ⟨b, 0, none⟩)] :: R)), (loadG 163 (.pointer (some ⟨b, 2, none⟩))).run Tryz.prog s.w = .ok (.slice a n c) s.w := fun s => run_ldP (by kernel_rfl) (dkRow s.h).2.2.1
  clear hw2
  have HO := hid ho
  clear ho
  rw [hP] at hQ2
  try rw [hQ2]
  refine wp_region_class_tail (fun w' => St W w' (row b 0 (dkC D (.slice a n c) (.int .i64 D.safe)) :: OwnS 1 a n c (byC D.b) :: row Q 0 [.slice xa xn xc] :: row P 0 [.pointer (some ⟨b, 0, none⟩)] :: R)) 12 (by kernel_rfl) (by kernel_rfl) s3.drew ?_
  simp only [List.take_succ_cons, List.take_zero, List.drop_succ_cons, List.drop_zero]
  repeat (go_big_quiet_step ((rename_i s; go_at_call 160; refine unless_c ?_; rw [HW.out]; exact Cls.end _ s.h)))
  refine wpQuiet_nil ?_
  rintro ⟨w5, s5⟩
  dsimp only
  have hch : D.code (D.appendW bs.length) = 0 → ∀ w1, St W w1 (row b 0 (dkC D.used (.slice a n c) (.int .i64 D.safe)) :: OwnS 1 a n c (byC D.b) :: row Q 0 [.slice xa xn xc] :: row P 0 [.pointer (some ⟨b, 0, none⟩)] :: R) →
      Calls Tryz.prog 210 #[.pointer (some ⟨P, 0, none⟩), .pointer (some ⟨Q, 0, none⟩)] w1 (fun e w2 => e = .returned (.tuple #[]) ∧ (Ending.returned (.int .i64 0) = .returned (.int .i64 (D.code (D.appendW bs.length))) ∧ St W w2 (DskH b (D.append bs) :: R))) := fun hc w1 s => by
    refine apF_c hp hn2 hx s ?_
    rintro a' c' w' s'
    refine ⟨rfl, by rw [hc], ?_⟩
    rw [append_yes hc]
    exact DskH.close (D := { D.used with b := D.b ++ bs }) (ao := a') (n := n + xn) (c := c') (by
      show St W w' (row b 0 (dkC D.used (.slice a' (n + xn) c') (.int .i64 D.used.safe)) :: OwnS 1 a' (n + xn) c' (byC (D.b ++ bs)) :: R)
      rw [(used_b D).2]
      exact (s'.perm [2, 2]).dropN 2 |>.perm [0])
  have hno : D.code (D.appendW bs.length) ≠ 0 → ∀ w1, St W w1 (row b 0 (dkC (D.left0 (D.appendW bs.length)) (.slice a n c) (.int .i64 D.safe)) :: OwnS 1 a n c (byC D.b) :: row Q 0 [.slice xa xn xc] :: row P 0 [.pointer (some ⟨b, 0, none⟩)] :: R) →
      Ending.returned (.int .i64 (D.code (D.appendW bs.length))) = .returned (.int .i64 (D.code (D.appendW bs.length))) ∧ St W w1 (DskH b (D.append bs) :: R) := fun hc w1 s => by
    refine ⟨rfl, ?_⟩
    rw [append_no hc]
    have hb : (D.left0 (D.appendW bs.length)).b = D.b ∧ (D.left0 (D.appendW bs.length)).safe = D.safe := by
      rcases left0_cases D (D.appendW bs.length) with e | e <;> rw [e]
      · exact ⟨rfl, rfl⟩
      · exact used_b D
    exact DskH.close (ao := a) (n := n) (c := c) (by rw [hb.1, hb.2]; exact (s.perm [2, 2]).dropN 2 |>.perm [0])
  have HCH := hid hch; have HNO := hid hno
  clear hch hno
  go_wp2_with (go_at_call 159; go_loud (refine (doA_c (post := fun e w' => e = .returned (.int .i64 (D.code (D.appendW bs.length))) ∧ St W w' (DskH b (D.append bs) :: R)) HO.out.left s5 HCH.out HNO.out).mono ?_; rintro e w6 ⟨rfl, s6⟩))
  exact HK.out _ s6

set_option maxRecDepth 100000 in
set_option maxHeartbeats 4000000 in
theorem sync_c (ho : DskOK D) (st : St W w (DskH b D :: R)) (K : ∀ w', St W w' (DskH b D.sync :: R) → post (.returned (.int .i64 (D.code 0))) w') :
    Calls Tryz.prog 186 #[.pointer (some ⟨b, 0, none⟩)] w post := by
  have HK := hid K; clear K
  obtain ⟨a, n, c, s⟩ := DskH.open st
  have hn : n = D.b.length := by have := (OwnS.rd (St.pick 1 s)).len; rw [byC_len] at this; omega
  have hn2 : n ≤ 9223372036854775807 := by have := ho.len; omega
  have s1 := s.alloc #[.pointer (some ⟨b, 0, none⟩)] 90
  have s3 : St W _ (row b 0 (dkC D (.slice a n c) (.int .i64 D.safe)) :: OwnS 1 a n c (byC D.b) :: row w.heap.size 0 [.pointer (some ⟨b, 0, none⟩)] :: R) := s1.perm [1, 1]
  have hch : D.code 0 = 0 → ∀ w1, St W w1 (row b 0 (dkC D.used (.slice a n c) (.int .i64 D.safe)) :: OwnS 1 a n c (byC D.b) :: row w.heap.size 0 [.pointer (some ⟨b, 0, none⟩)] :: R) →
      Calls Tryz.prog 211 #[.pointer (some ⟨w.heap.size, 0, none⟩)] w1 (fun e w2 => e = .returned (.tuple #[]) ∧ (Ending.returned (.int .i64 0) = .returned (.int .i64 (D.code 0)) ∧ St W w2 (DskH b D.sync :: R))) := fun hc w1 s => by
    refine syF_c hn2 s ?_
    rintro w' s'
    refine ⟨rfl, by rw [hc], ?_⟩
    rw [sync_yes hc]
    exact DskH.close (D := { D.used with safe := D.b.length }) (ao := a) (n := n) (c := c) (by
      show St W w' (row b 0 (dkC D.used (.slice a n c) (.int .i64 D.b.length)) :: OwnS 1 a n c (byC D.used.b) :: R)
      rw [(used_b D).1, ← hn]
      exact (s'.perm [2]).dropN 1)
  have hno : D.code 0 ≠ 0 → ∀ w1, St W w1 (row b 0 (dkC (D.left0 0) (.slice a n c) (.int .i64 D.safe)) :: OwnS 1 a n c (byC D.b) :: row w.heap.size 0 [.pointer (some ⟨b, 0, none⟩)] :: R) →
      Ending.returned (.int .i64 (D.code 0)) = .returned (.int .i64 (D.code 0)) ∧ St W w1 (DskH b D.sync :: R) := fun hc w1 s => by
    refine ⟨rfl, ?_⟩
    rw [sync_no hc]
    have hb : (D.left0 0).b = D.b ∧ (D.left0 0).safe = D.safe := by
      rcases left0_cases D 0 with e | e <;> rw [e]
      · exact ⟨rfl, rfl⟩
      · exact used_b D
    exact DskH.close (ao := a) (n := n) (c := c) (by rw [hb.1, hb.2]; exact (s.perm [2]).dropN 1)
  have HCH := hid hch; have HNO := hid hno; have HO := hid ho
  have c0 := run_ldP (t := 90) (by kernel_rfl) (boxOne (St.pick 2 s3))
  clear hch hno hn ho s1
  go_enter Tryz.func186, Tryz.ntmps186
  go_wp2_with (go_at_call 159; go_loud (refine (doS_c (post := fun e w' => e = .returned (.int .i64 (D.code 0)) ∧ St W w' (DskH b D.sync :: R)) HO.out.left s3 HCH.out HNO.out).mono ?_; rintro e w6 ⟨rfl, s6⟩))
  exact HK.out _ s6
end

section
variable {W w : World} {R : List HP} {post : Ending → World → Prop} {b : Nat} {D : DskV}
theorem dread_c (ho : DskOK D) (hof : D.off = false) (st : St W w (DskH b D :: R))
    (K : ∀ a n c w', n = D.b.length → St W w' (OwnS 1 a n c (byC D.b) :: DskH b D :: R) → post (.returned (.tuple #[.slice a n c, .int .i64 0])) w') :
    Calls Tryz.prog 111 #[.pointer (some ⟨b, 0, none⟩)] w post := by
  have HK := hid K; clear K
  obtain ⟨a, n, c, s⟩ := DskH.open st
  have hn : n = D.b.length := by have := (OwnS.rd (St.pick 1 s)).len; rw [byC_len] at this; omega
  have hbd : n * 1 ≤ 140737488355328 := by have := ho.len; omega
  have HN := hid hn
  obtain ⟨c0, c1, c2, c3, f0, f1, f2, f3⟩ := dkRow s
  rw [hof] at c0
  clear hn
  go_enter Tryz.func111, Tryz.ntmps111
  go_wp2_with (go_at_call 157; refine cloneU_c s (OwnS.rd (St.pick 1 s)) hbd ?_; rintro a1 c1' w1 s1)
  exact HK.out _ _ _ _ HN.out ((DskH.close (s1.perm [1, 1])).pick 1)

theorem dnew_c (st : St W w R) (K : ∀ b w', St W w' (DskH b DskV.new :: R) → post (.returned (.pointer (some ⟨b, 0, none⟩))) w') :
    Calls Tryz.prog 29 #[] w post := by
  have HK := hid K; clear K
  go_enter Tryz.func29, Tryz.ntmps29
  go_wp2_with (first
    | (refine wpl_build (t := 166) rfl rfl (v := .agg [Value.bool false, .int .i64 (-1)].toArray) (by kernel_rfl) ?_)
    | (refine wpl_build (t := 168) rfl rfl (v := .agg [Value.bool false, .int .i64 (-1), .slice none 0 0, .int .i64 0].toArray) (by kernel_rfl) ?_)
    | (refine wpl_boxA (vs := [Value.bool false, .int .i64 (-1), .slice none 0 0, .int .i64 0]) rfl (.tmp 2) rfl rfl st ?_; rintro T w1 s1))
  exact HK.out _ _ (DskH.close (D := DskV.new) ((OwnS.none0 s1).pick 1))
end
end Go.Proofs.YtojfjbbggpfijaaGreatDoor

/- The journal: Record, Add. -/
namespace Go.Proofs.YtojfjbbggpfijaaGreatDoor
open Go.RowKit Go.Qd

section
variable {W w : World} {R : List HP} {post : Ending → World → Prop}

theorem zero_crc (w : World) : (zeroValue 278).run Tryz.prog w = .ok (.agg (Value.int .u32 0 :: .int .i32 0 :: .int .u32 0 :: rowsC 0).toArray) w := by kernel_rfl
theorem zero_wrJ (w : World) : (zeroValue 309).run Tryz.prog w = .ok (.agg [Value.slice none 0 0, .int .i64 0].toArray) w := by kernel_rfl

set_option maxRecDepth 100000 in
set_option maxHeartbeats 4000000 in
theorem record_c {a : Option Addr} {n c : Nat} {bs : List UInt8} (h1 : 1 ≤ bs.length) (h2 : bs.length ≤ 512) (hp : Rds W R 1 a n c (byC bs)) (st : St W w R)
    (K : ∀ a' n' c' w', n' = (recB bs).length → St W w' (OwnS 1 a' n' c' (byC (recB bs)) :: R) → post (.returned (.tuple #[.slice a' n' c', .int .i64 0])) w') :
    Calls Tryz.prog 184 #[.slice a n c] w post := by
  have HK := hid K; clear K
  have hl : bs.length = n := by have := (hp w st).len; rw [byC_len] at this; omega
  have hb1 : ((n : Int) == 0) = false := by simp; omega
  have hb2 : decide (512 < (n : Int)) = false := decide_eq_false (by omega)
  have hw := IntWalk.u64_in (n : Int) (by omega)
  have HL := hid hl
  have hn : 1 ≤ n ∧ n ≤ 512 := by omega
  clear hl h1 h2
  have hsz : (leB n 2).length = 2 := leB_len n 2
  have HSZ := hid hsz
  clear hsz
  go_enter Tryz.func184, Tryz.ntmps184
  go_wp2_with (first
    | (refine wpl_allocA rfl rfl zero_crc st ?_; rintro T w1 s1'; have s1 : St W w1 (CrcT T false :: R) := s1')
    | (refine wpl_allocA rfl rfl zero_wrJ s1 ?_; rintro S w2 s2'; have s2 : St W w2 (WrA S [] :: CrcT T false :: R) := WrA.close ((OwnS.none0 s2').pick 1))
    | (refine wpl_allocA rfl rfl zero_wrJ s2 ?_; rintro V w3 s3'; have s3 : St W w3 (WrA V [] :: WrA S [] :: CrcT T false :: R) := WrA.close ((OwnS.none0 s3').pick 1))
    | (go_at_call 207; go_loud (refine wnumber_c (v := n) (k := 2) (by decide) (by omega) (by decide) (St.pick 1 s3) ?_; rintro w4 s4; rw [List.nil_append] at s4))
    | (go_at_call 182; have z := s9; refine wbytes_c (by rw [HRB.out]; omega) s9 ?_; rintro aa na ca wa hna sa; have HNA := hid hna; clear hna)
    | (go_at_call 182; refine wbytes_c (by rw [HSZ.out]; decide) s4 ?_; rintro a5 n5 c5 w5 hn5 s5; have HN5 := hid hn5; clear hn5; have s5' := St.pick 3 s5)
    | (go_at_call 209; have z := s6; refine cmark_c hp.cons.cons.cons.cons (by omega) (St.pick 1 s6) ?_; rintro a7 n7 c7 w7 hn7 s7; have HN7 := hid hn7; clear hn7
       have s8 := s7.alloc #[.slice a6 n6 c6, .slice a7 n7 c7] 163
       have s8' := St.pick 6 s8)
    | (go_at_call 209; refine cmark_c (fun _ s => OwnS.rd s) (by rw [HN5.out, HSZ.out]; decide) s5' ?_; rintro a6 n6 c6 w6 hn6 s6; have HN6 := hid hn6; clear hn6)
    | (go_at_call 208; go_loud (
        have hrb : (recB bs).length = n + 10 := (by rw [recB_len, HL.out])
        have HRB := hid hrb
        have e1 : sealB (leB n 2) ++ sealB bs = recB bs := (by unfold recB; rw [HL.out])
        have HE1 := hid e1
        refine wraw_c (ps := [⟨a6, n6, c6, sealB (leB n 2)⟩, ⟨a7, n7, c7, sealB bs⟩]) (fun _ s => St.rowRd s rfl (by decide) (pt_one _)) (fun x hx => ?_) (by show n6 + (n7 + 0) ≤ _; rw [HN6.out, HN7.out, sealB_len, sealB_len, HSZ.out, HL.out]; omega) (by decide) (by show 2 ≤ 4096; decide) s8' ?_
        · rcases List.mem_cons.1 hx with rfl | hx
          · exact fun _ s => OwnS.rd (St.pick 3 s)
          · rw [List.mem_singleton] at hx; subst hx
            exact fun _ s => OwnS.rd (St.pick 1 s)
        rintro w9 s9
        have e2 : ([] : List UInt8) ++ ptBs [⟨a6, n6, c6, sealB (leB n 2)⟩, ⟨a7, n7, c7, sealB bs⟩] = recB bs := (by rw [← HE1.out]; simp [ptBs])
        rw [e2] at s9
        clear hrb e1 e2)))
  exact HK.out _ _ _ _ HNA.out ((sa.perm [1, 1, 1, 1, 1, 1, 1]).dropN 7)

/-- A journal in memory, on a disk. -/
def JrnH (b d : Nat) : HP := fun h => ∃ k : Int, row b 0 [.pointer (some ⟨d, 0, none⟩), .int .i64 k] h
theorem JrnH.open {b d : Nat} (st : St W w (JrnH b d :: R)) : ∃ k : Int, St W w (row b 0 [.pointer (some ⟨d, 0, none⟩), .int .i64 k] :: R) := St.ex (F := fun (k : Int) h => row b 0 [.pointer (some ⟨d, 0, none⟩), .int .i64 k] h) st
theorem JrnH.close {b d : Nat} {k : Int} (st : St W w (row b 0 [.pointer (some ⟨d, 0, none⟩), .int .i64 k] :: R)) : St W w (JrnH b d :: R) := st.imp fun _ x => ⟨k, x⟩

set_option maxRecDepth 100000 in
set_option maxHeartbeats 4000000 in
theorem jadd_c {b d : Nat} {D : DskV} {a : Option Addr} {n c : Nat} {bs : List UInt8} (ho : DskOK D) (h1 : 1 ≤ bs.length) (h2 : bs.length ≤ 512) (hp : Rds W R 1 a n c (byC bs)) (st : St W w (JrnH b d :: DskH d D :: R))
    (K : ∀ w', St W w' (JrnH b d :: DskH d (D.add bs) :: R) → post (.returned (.int .i64 (D.addW bs))) w') :
    Calls Tryz.prog 153 #[.pointer (some ⟨b, 0, none⟩), .slice a n c] w post := by
  have HK := K; clear K
  obtain ⟨k, s⟩ := JrnH.open st
  have e1 : ¬ bs.length = 0 := by omega
  have e2 : ¬ 512 < bs.length := by omega
  unfold DskV.add DskV.addW at HK
  rw [if_neg e1, if_neg e2, if_neg e1, if_neg e2] at HK
  have hrl : (recB bs).length ≤ 1048576 := by rw [recB_len]; omega
  have HRL := hid hrl
  have HO := hid ho; have HO2 := hid (ho.append (recB bs))
  clear e1 e2 hrl ho
  by_cases hc : D.code (D.appendW (recB bs).length) = 0
  · rw [if_neg (by rw [hc]; simp), if_neg (by rw [hc]; simp)] at HK
    have HC := hid hc
    clear hc
    obtain ⟨x, hx⟩ : ∃ x, (D.append (recB bs)).code 0 = x := ⟨_, rfl⟩
    rw [hx] at HK
    have HX := hid hx
    clear hx
    have HK2 := hid HK
    clear HK
    by_cases h0 : x = 0
    · subst h0
      go_enter Tryz.func153, Tryz.ntmps153
      go_wp2_with (first
        | (go_at_call 184; refine record_c h1 h2 hp.cons.cons s ?_; rintro a2 n2 c2 w2 hn2 s2; have HN2 := hid hn2; clear hn2; obtain ⟨c0, c1, f0, f1⟩ := rowTwo0 (St.pick 1 s2); have s2' := St.pick 2 s2)
        | (go_at_call 185; refine append_c HO.out (fun _ s => OwnS.rd s) (by rw [HN2.out]; exact HRL.out) s2' ?_; rintro w3 s3; rw [HC.out]; obtain ⟨c0, c1, f0, f1⟩ := rowTwo0 (St.pick 2 s3))
        | (go_at_call 186; refine sync_c HO2.out s3 ?_; rintro w4 s4; rw [HX.out]; obtain ⟨c0, c1, f0, f1⟩ := rowTwo0 (St.pick 2 s4)))
      have s5 := (St.pick 2 s4).rowSet (i := 1) (by simp) (.int .i64 (wrap64 (k + 1)))
      rw [Nat.zero_add] at s5
      exact HK2.out _ (JrnH.close ((s5.perm [2]).dropN 1))
    · have hb : (x != 0) = true := by simp [h0]
      go_enter Tryz.func153, Tryz.ntmps153
      go_wp2_with (first
        | (go_at_call 184; refine record_c h1 h2 hp.cons.cons s ?_; rintro a2 n2 c2 w2 hn2 s2; have HN2 := hid hn2; clear hn2; obtain ⟨c0, c1, f0, f1⟩ := rowTwo0 (St.pick 1 s2); have s2' := St.pick 2 s2)
        | (go_at_call 185; refine append_c HO.out (fun _ s => OwnS.rd s) (by rw [HN2.out]; exact HRL.out) s2' ?_; rintro w3 s3; rw [HC.out]; obtain ⟨c0, c1, f0, f1⟩ := rowTwo0 (St.pick 2 s3))
        | (go_at_call 186; refine sync_c HO2.out s3 ?_; rintro w4 s4; rw [HX.out]))
      exact HK2.out _ (JrnH.close (((s4.perm [1]).dropN 1).perm [1]))
  · rw [if_pos hc, if_pos hc] at HK
    obtain ⟨x, hx⟩ : ∃ x, D.code (D.appendW (recB bs).length) = x := ⟨_, rfl⟩
    rw [hx] at HK hc
    have HX := hid hx
    have hb : (x != 0) = true := by simp [hc]
    have HK2 := hid HK
    clear HK hx hc
    go_enter Tryz.func153, Tryz.ntmps153
    go_wp2_with (first
      | (go_at_call 184; refine record_c h1 h2 hp.cons.cons s ?_; rintro a2 n2 c2 w2 hn2 s2; have HN2 := hid hn2; clear hn2; obtain ⟨c0, c1, f0, f1⟩ := rowTwo0 (St.pick 1 s2); have s2' := St.pick 2 s2)
      | (go_at_call 185; refine append_c HO.out (fun _ s => OwnS.rd s) (by rw [HN2.out]; exact HRL.out) s2' ?_; rintro w3 s3; rw [HX.out]))
    exact HK2.out _ (JrnH.close (((s3.perm [1]).dropN 1).perm [1]))
end
end Go.Proofs.YtojfjbbggpfijaaGreatDoor

/- The journal of a disk without bytes. -/
namespace Go.Proofs.YtojfjbbggpfijaaGreatDoor
open Go.RowKit Go.Qd

/-- A reader's cells: a table, what is left, how far it is. -/
def rdrC (a : Option Addr) (n c : Nat) (t : Int) : List Value := (Value.int .u32 0 :: .int .i32 0 :: .int .u32 0 :: rowsC 0) ++ [.slice a n c, .int .i64 t]

section
variable {W w : World} {R : List HP} {post : Ending → World → Prop} {T n c : Nat} {a : Option Addr} {t : Int}

theorem rdrRow (s : St W w (row T 0 (rdrC a n c t) :: R)) : w.cell? ⟨T, 259, none⟩ = some (.slice a n c) ∧ w.cell? ⟨T, 260, none⟩ = some (.int .i64 t) := by
  have hl : (Value.int .u32 0 :: .int .i32 0 :: .int .u32 0 :: rowsC 0).length = 259 := by simp [rowsC_len]
  have f : ∀ i v, (rdrC a n c t)[i]? = some v → w.cell? ⟨T, i, none⟩ = some v := fun i v hv => by have := s.rowCell hv; rwa [Nat.zero_add] at this
  refine ⟨f 259 _ ?_, f 260 _ ?_⟩
  · unfold rdrC; rw [List.getElem?_append_right (by omega), hl]; rfl
  · unfold rdrC; rw [List.getElem?_append_right (by omega), hl]; rfl

theorem size0_c (hn : n < 6) (st : St W w (row T 0 (rdrC a n c t) :: R)) (K : post (.returned (.tuple #[.int .i64 0, .int .i64 0])) w) :
    Calls Tryz.prog 188 #[.pointer (some ⟨T, 0, none⟩)] w post := by
  have HK := hid K; clear K
  obtain ⟨c0, c1⟩ := rdrRow st
  have h1 : decide ((n : Int) < 6) = true := decide_eq_true (by omega)
  clear hn
  go_enter Tryz.func188, Tryz.ntmps188
  go_wp2_with fail
  exact HK.out

theorem next0_c (hn : n < 6) (st : St W w (row T 0 (rdrC a n c t) :: R)) (K : post (.returned (.tuple #[.slice none 0 0, .int .i64 0])) w) :
    Calls Tryz.prog 158 #[.pointer (some ⟨T, 0, none⟩)] w post := by
  have HK := hid K; clear K
  go_enter Tryz.func158, Tryz.ntmps158
  go_wp2_with (go_at_call 188; refine size0_c hn st ?_)
  exact HK.out

set_option maxRecDepth 100000 in
set_option maxHeartbeats 2000000 in
theorem read0_c (hn : n < 6) (st : St W w R) (K : ∀ w', St W w' R → post (.returned (.tuple #[.slice none 0 0, .int .i64 0, .int .i64 0])) w') :
    Calls Tryz.prog 112 #[.slice a n c] w post := by
  have HK := hid K; clear K
  go_enter Tryz.func112, Tryz.ntmps112
  go_wp2_with (first
    | (refine wpl_build rfl rfl (v := .agg (rdrC a n c 0).toArray) (by kernel_rfl) ?_)
    | (refine wpl_boxA (vs := rdrC a n c 0) rfl (.tmp 10) rfl rfl st ?_; rintro T w1 s1))
  go_loopw [6] (fun oo wr => oo = .slice none 0 0 ∧ wr = w1) (fun _ _ => 0)
  case atStart => exact ⟨rfl, rfl⟩
  case round =>
    obtain ⟨rfl, hwr⟩ := hrel
    subst hwr
    obtain ⟨c0, c1⟩ := rdrRow s1
    go_wp2_with (go_at_call 158; refine next0_c hn s1 ?_)
    go_quiet (fail)
    go_wp2_with fail
    go_ret3
    exact HK.out _ (s1.drop.drewN nq)

set_option maxRecDepth 100000 in
set_option maxHeartbeats 2000000 in
theorem jopen0_c {d : Nat} {D : DskV} (ho : DskOK D) (hof : D.off = false) (h0 : D.b = []) (st : St W w (DskH d D :: R))
    (K : ∀ b w', St W w' (JrnH b d :: DskH d D :: R) → post (.returned (.tuple #[.pointer (some ⟨b, 0, none⟩), .slice none 0 0, .int .i64 0])) w') :
    Calls Tryz.prog 67 #[.pointer (some ⟨d, 0, none⟩)] w post := by
  have HK := hid K; clear K
  have HZ := hid h0; have HOF := hid hof; have HO := hid ho
  clear h0 hof ho
  go_enter Tryz.func67, Tryz.ntmps67
  go_wp2_with (first
    | (go_at_call 111; refine dread_c HO.out HOF.out st ?_; rintro a1 n1 c1 w1 hn1 s1; have hz : n1 = 0 := (by rw [hn1, HZ.out]; rfl); clear hn1; subst hz)
    | (go_at_call 112; refine read0_c (by decide) s1.drop ?_; rintro w2 s2)
    | (refine wpl_build rfl rfl (v := .agg [Value.pointer (some ⟨d, 0, none⟩), .int .i64 0].toArray) (by kernel_rfl) ?_)
    | (refine wpl_boxA (vs := [Value.pointer (some ⟨d, 0, none⟩), .int .i64 0]) rfl (.tmp 40) rfl rfl s2 ?_; rintro J w3 s3))
  go_ret3
  exact HK.out _ _ (JrnH.close s3)
end
end Go.Proofs.YtojfjbbggpfijaaGreatDoor
