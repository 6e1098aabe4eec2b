/- The overlay: there, node, told, raise, lower. -/
import Derived.Test.YtbpdchaeakihkaaGreatOverE
namespace Go.Proofs.YtbpdchaeakihkaaGreat
open Go.RowKit Go.Qd

structure OV where
  V : VV
  L : List LetV
  C : List (Int × Bool)
  cfg : List Int
  D : List Int
  heard : List Int
  ticks : Int
  asked : Int
  since : Int

def OvA (b d : Nat) (O : OV) : HP := fun h => ∃ v : Nat, sepL [row b 0 [.pointer (some ⟨v, 0, none⟩)], NewsA b 1 O.L O.C, row b 3 (ivs O.cfg), row b 23 [.pointer (some ⟨d, 0, none⟩)], row b 24 (ivs O.heard), row b 36 [.int .i64 O.ticks, .int .i64 O.asked, .int .i64 O.since], ViewsA v O.V, DiceA d O.D] h

/-- A message that is but a kind. -/
def kindM (k : Int) : MsgV := ⟨k, 0, 0, false, none, 0, 0, [], 0, 0, 0, 0, ByteArray.empty, none, 0, 0, none, 0, 0⟩

def thereB (O : OV) (p : Int) : Bool := decide (0 ≤ p) && decide (p < O.cfg.getD 0 0)
def onodeB (O : OV) (p : Int) : Bool := thereB O p && decide (p ≠ O.V.self)

structure OOK (O : OV) : Prop where
  v : VOK O.V
  cl : O.cfg.length = 20
  hl : O.heard.length = 12
  r : rightB O.cfg = true

section
variable {W w : World} {R : List HP} {post : Ending → World → Prop} {b d : Nat} {O : OV} {p : Int}

theorem OvA.open (st : St W w (OvA b d O :: R)) : ∃ v, St W w (row b 0 [.pointer (some ⟨v, 0, none⟩)] :: NewsA b 1 O.L O.C :: row b 3 (ivs O.cfg) :: row b 23 [.pointer (some ⟨d, 0, none⟩)] :: row b 24 (ivs O.heard) :: row b 36 [.int .i64 O.ticks, .int .i64 O.asked, .int .i64 O.since] :: ViewsA v O.V :: DiceA d O.D :: R) := by
  obtain ⟨v, s⟩ := St.ex (F := fun (v : Nat) h => sepL [row b 0 [.pointer (some ⟨v, 0, none⟩)], NewsA b 1 O.L O.C, row b 3 (ivs O.cfg), row b 23 [.pointer (some ⟨d, 0, none⟩)], row b 24 (ivs O.heard), row b 36 [.int .i64 O.ticks, .int .i64 O.asked, .int .i64 O.since], ViewsA v O.V, DiceA d O.D] h) st
  exact ⟨v, (St.flat _).1 s⟩
theorem OvA.close {v : Nat} (st : St W w (row b 0 [.pointer (some ⟨v, 0, none⟩)] :: NewsA b 1 O.L O.C :: row b 3 (ivs O.cfg) :: row b 23 [.pointer (some ⟨d, 0, none⟩)] :: row b 24 (ivs O.heard) :: row b 36 [.int .i64 O.ticks, .int .i64 O.asked, .int .i64 O.since] :: ViewsA v O.V :: DiceA d O.D :: R)) : St W w (OvA b d O :: R) :=
  ((St.flat [row b 0 [.pointer (some ⟨v, 0, none⟩)], NewsA b 1 O.L O.C, row b 3 (ivs O.cfg), row b 23 [.pointer (some ⟨d, 0, none⟩)], row b 24 (ivs O.heard), row b 36 [.int .i64 O.ticks, .int .i64 O.asked, .int .i64 O.since], ViewsA v O.V, DiceA d O.D]).2 st).imp fun _ x => ⟨v, x⟩

theorem row1c {o : Nat} {v : Value} (s : St W w (row b o [v] :: R)) : w.cell? ⟨b, o, none⟩ = some v := s.rowCell (i := 0) rfl
theorem cfg_off {o i : Nat} {c : List Int} (s : St W w (row b o (ivs c) :: R)) (h : i < c.length) : w.cell? ⟨b, o + i, none⟩ = some (.int .i64 (c.getD i 0)) := by
  have := s.rowCell (ivs_get h)
  rw [this]; simp [h]

theorem there_c (st : St W w (OvA b d O :: R)) (hc : O.cfg.length = 20) (K : post (.returned (.bool (thereB O p))) w) : Calls Tryz.prog 83 #[.pointer (some ⟨b, 0, none⟩), .int .i64 p] w post := by
  have HK := hid K; clear K
  obtain ⟨v, s⟩ := OvA.open st
  have g := cfg_off (St.pick 2 s) (i := 0) (by rw [hc]; omega)
  rw [Nat.add_zero] at g
  unfold thereB at HK
  obtain ⟨n, hn⟩ : ∃ n, O.cfg.getD 0 0 = n := ⟨_, rfl⟩
  rw [hn] at g HK
  clear hn hc
  by_cases h1 : 0 ≤ p
  · by_cases h2 : p < n
    · rw [show (decide (0 ≤ p) && decide (p < n)) = true by simp [h1, h2]] at HK
      go_enter Tryz.func83, Tryz.ntmps83
      go_wp2
      exact HK.out
    · rw [show (decide (0 ≤ p) && decide (p < n)) = false by simp [h2]] at HK
      go_enter Tryz.func83, Tryz.ntmps83
      go_wp2
      exact HK.out
  · rw [show (decide (0 ≤ p) && decide (p < n)) = false by simp [h1]] at HK
    go_enter Tryz.func83, Tryz.ntmps83
    go_wp2
    exact HK.out

theorem oself_c {v : Nat} {V : VV} (st : St W w (ViewsA v V :: R)) (K : post (.returned (.int .i64 V.self)) w) : Calls Tryz.prog 84 #[.pointer (some ⟨v, 0, none⟩)] w post := by
  have HK := hid K; clear K
  have h0 := (ViewsA.open st).cell
  go_enter Tryz.func84, Tryz.ntmps84
  go_wp2
  exact HK.out

theorem onode_c (st : St W w (OvA b d O :: R)) (hc : O.cfg.length = 20) (K : post (.returned (.bool (onodeB O p))) w) : Calls Tryz.prog 42 #[.pointer (some ⟨b, 0, none⟩), .int .i64 p] w post := by
  have HK := hid K; clear K
  obtain ⟨v, s⟩ := OvA.open st
  have g := row1c s
  unfold onodeB at HK
  obtain ⟨t, ht⟩ : ∃ t, thereB O p = t := ⟨_, rfl⟩
  rw [ht] at HK
  have HT := hid ht
  clear ht
  cases t with
  | false =>
    go_enter Tryz.func42, Tryz.ntmps42
    go_wp2_with (go_at_call 83; refine there_c st hc ?_; rw [HT.out])
    exact HK.out
  | true =>
    by_cases h : p = O.V.self
    · have hb : (p != O.V.self) = false := by simp [h]
      rw [show (true && decide (p ≠ O.V.self)) = false by simp [h]] at HK
      clear h
      go_enter Tryz.func42, Tryz.ntmps42
      go_wp2_with (first
        | (go_at_call 83; refine there_c st hc ?_; rw [HT.out])
        | (go_at_call 84; refine oself_c (St.pick 6 s) ?_))
      exact HK.out
    · have hb : (p != O.V.self) = true := by simp [h]
      rw [show (true && decide (p ≠ O.V.self)) = true by simp [h]] at HK
      clear h
      go_enter Tryz.func42, Tryz.ntmps42
      go_wp2_with (first
        | (go_at_call 83; refine there_c st hc ?_; rw [HT.out])
        | (go_at_call 84; refine oself_c (St.pick 6 s) ?_))
      exact HK.out

theorem boxN {x y : Value} (s : St W w (row b 1 [x, y] :: R)) : w.cell? ⟨b, 1, none⟩ = some x ∧ w.cell? ⟨b, 2, none⟩ = some y ∧ w.frozen? ⟨b, 1, none⟩ = false ∧ w.frozen? ⟨b, 2, none⟩ = false :=
  ⟨s.rowCell (i := 0) rfl, s.rowCell (i := 1) rfl, s.rowFree (i := 0) (by simp), s.rowFree (i := 1) (by simp)⟩

/-- told: what came about is handed over, and forgotten. -/
theorem told_c (st : St W w (OvA b d O :: R))
    (K : ∀ la ln lc ca cn cc w', St W w' (OvA b d { O with L := [], C := [] } :: OwnS 13 la ln lc (letC O.L) :: OwnS 2 ca cn cc (chC O.C) :: sepL (O.L.map LetV.own) :: R) → post (.returned (.tuple #[.slice la ln lc, .slice ca cn cc])) w') :
    Calls Tryz.prog 45 #[.pointer (some ⟨b, 0, none⟩)] w post := by
  have HK := hid K; clear K
  obtain ⟨v, s⟩ := OvA.open st
  obtain ⟨la, ln, lc, ca, cn, cc, s1⟩ := NewsA.open (St.pick 1 s)
  obtain ⟨g0, g1, f0, f1⟩ := boxN s1
  have s2 := s1.alloc #[.slice la ln lc, .slice ca cn cc] 43
  obtain ⟨k0, k1, l0, l1⟩ := boxN (St.pick 1 s2)
  have s3 := (St.pick 1 s2).rowSet (i := 0) (by simp) (.slice none 0 0)
  have s4 := s3.rowSet (i := 1) (by simp) (.slice none 0 0)
  have s4' : St W (((w.alloc (.cells #[.slice la ln lc, .slice ca cn cc] 43)).setCell ⟨b, 1, none⟩ (.slice none 0 0)).setCell ⟨b, 2, none⟩ (.slice none 0 0)) (row b 1 [.slice none 0 0, .slice none 0 0] :: row w.heap.size 0 [.slice la ln lc, .slice ca cn cc] :: OwnS 13 la ln lc (letC O.L) :: OwnS 2 ca cn cc (chC O.C) :: sepL (O.L.map LetV.own) :: row b 0 [.pointer (some ⟨v, 0, none⟩)] :: row b 3 (ivs O.cfg) :: row b 23 [.pointer (some ⟨d, 0, none⟩)] :: row b 24 (ivs O.heard) :: row b 36 [.int .i64 O.ticks, .int .i64 O.asked, .int .i64 O.since] :: ViewsA v O.V :: DiceA d O.D :: R) := s4
  clear s4 s3
  go_enter Tryz.func45, Tryz.ntmps45
  go_wp2_with fail
  generalize ((w.alloc (.cells #[.slice la ln lc, .slice ca cn cc] 43)).setCell ⟨b, 1, none⟩ (.slice none 0 0)).setCell ⟨b, 2, none⟩ (.slice none 0 0) = w4 at s4' ⊢
  generalize w.heap.size = B at s4' ⊢
  obtain ⟨m0, m1⟩ := boxP (St.pick 1 s4')
  go_quiet (fail)
  have s5 := s4'.drewN nq
  generalize w4.drewN nq = w5 at s5 ⊢
  go_wp2
  have t1 := OwnS.none0 (sz := 13) (OwnS.none0 (sz := 2) s5.empD)
  have t2 : St W w5 (NewsA b 1 [] [] :: _) := NewsA.close (L := []) (C := []) (t1.perm [3, 0, 0, 0])
  have t3 := OvA.close (O := { O with L := [], C := [] }) (t2.perm [5, 0, 4, 4, 4, 4, 4, 4])
  exact HK.out _ _ _ _ _ _ _ (St.pick 1 t3).drop

theorem lenL {la ln lc} (s : St W w (OwnS 13 la ln lc (letC O.L) :: R)) : O.L.length = ln := by have := (OwnS.rd s).len; rw [letC_size] at this; omega

def raiseO (O : OV) (p : Int) : OV :=
  if raiseOk O.V p then
    { O with V := raiseV O.V O.D p, D := raiseD O.V O.D p, L := if 0 ≤ raiseG O.V O.D then O.L ++ [⟨raiseG O.V O.D, kindM 6⟩] else O.L,
             C := (if 0 ≤ raiseG O.V O.D then O.C ++ [(raiseG O.V O.D, false)] else O.C) ++ [(p, true)], heard := O.heard.set p.toNat 0 }
  else O

def lowerO (O : OV) (p : Int) : OV := if memB O.V.a p then { O with V := lowerV O.V O.D p, D := lowerD O.V O.D p, C := O.C ++ [(p, false)] } else O

set_option maxRecDepth 100000 in
set_option maxHeartbeats 2000000 in
theorem olower_c (st : St W w (OvA b d O :: R)) (h : OOK O) (hC : O.C.length ≤ 4000) (K : ∀ w', St W w' (OvA b d (lowerO O p) :: R) → post (.returned (.tuple #[])) w') :
    Calls Tryz.prog 48 #[.pointer (some ⟨b, 0, none⟩), .int .i64 p] w post := by
  have HK := hid K; clear K
  obtain ⟨v, s⟩ := OvA.open st
  have HV := hid h.v
  have s1 := s.drew
  have g0 := row1c s1
  have g1 := row1c (St.pick 3 s1)
  unfold lowerO at HK
  obtain ⟨z, hz⟩ : ∃ z, memB O.V.a p = z := ⟨_, rfl⟩
  rw [hz] at HK
  have HZ := hid hz
  clear hz h
  cases z with
  | true =>
    simp only [if_true] at HK
    go_enter Tryz.func48, Tryz.ntmps48
    go_wp2_with fail
    go_region_law (go_simp; go_at_call 89; refine lower_c (s1.perm [6, 6]) HV.out ?_; rintro w2 s2; rw [HZ.out])
    all_goals
      have g2 := row1c (St.pick 2 s2)
      go_wp2_with (go_at_call 86; refine turn_c (St.pick 3 s2) (by omega) ?_; rintro w3 s3)
      go_end0
      exact HK.out _ (OvA.close (O := { O with V := lowerV O.V O.D p, D := lowerD O.V O.D p, C := O.C ++ [(p, false)] }) (s3.perm [3, 0, 2, 2, 2, 2, 0, 0]))
  | false =>
    have e1 : lowerV O.V O.D p = O.V := by unfold lowerV; rw [if_neg (by rw [HZ.out]; decide)]
    have e2 : lowerD O.V O.D p = O.D := by unfold lowerD; rw [if_neg (by rw [HZ.out]; decide)]
    simp only [Bool.false_eq_true, if_false] at HK
    have HE := hid (And.intro e1 e2)
    clear e1 e2
    go_enter Tryz.func48, Tryz.ntmps48
    go_wp2_with fail
    go_region_law (go_simp; go_at_call 89; refine lower_c (s1.perm [6, 6]) HV.out ?_; rintro w2 s2; rw [HZ.out]; rw [HE.out.1, HE.out.2] at s2)
    all_goals
      go_wp2_with fail
      go_end0
      exact HK.out _ (OvA.close (O := O) (s2.perm [2, 2, 2, 2, 2, 2, 0, 0]))

end

end Go.Proofs.YtbpdchaeakihkaaGreat
