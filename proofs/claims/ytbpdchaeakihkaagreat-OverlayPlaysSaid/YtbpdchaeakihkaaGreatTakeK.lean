/- The overlay: shuffle, answered. -/
import Derived.Test.YtbpdchaeakihkaaGreatFwds
namespace Go.Proofs.YtbpdchaeakihkaaGreat
open Go.RowKit Go.Qd

def namesL (O : OV) (q : Int) : List Int := O.V.p.filter fun x => !(x == q)
def swapM (pa : Option Addr) (pn pc : Nat) (ps : List Int) : MsgV := { kindM 8 with pa := pa, pn := pn, pc := pc, ps := ps }
/-- Names are told, and taken. -/
def swapO (O : OV) (m : MsgV) (pa : Option Addr) (pn pc : Nat) : OV :=
  learnAllO { O with D := (someF m.pn O.D (namesL O m.peer)).1, L := O.L ++ [⟨m.peer, swapM pa pn pc (someF m.pn O.D (namesL O m.peer)).2.1⟩] } (m.peer :: m.ps)

section
variable {W w : World} {R : List HP} {post : Ending → World → Prop} {b d : Nat} {O : OV} {m : MsgV} {p : Int}
attribute [local go_sem ↓] execOp_load58

theorem pred101 {T : Nat} : PredG W (row T 0 m.cells :: R) 101 #[.pointer (some ⟨T, 0, none⟩)] (fun x => x == m.peer) := by
  intro X x w1 p1 s1 K
  have HK := hid K; clear K
  obtain ⟨_, c1, _⟩ := boxM (St.pick 1 s1)
  go_enter Tryz.func101, Tryz.ntmps101
  go_wp2
  exact HK.out _ s1

theorem OOK.put {O : OV} (h : OOK O) (D : List Int) (L : List LetV) : OOK { O with D := D, L := L } := ⟨h.v, h.cl, h.hl, h.r⟩
theorem St.sel2' {A B C : HP} (s : St W w (A :: B :: C :: R)) : St W w (A :: C :: R) := St.drop (St.pick 1 s)
theorem St.sel3 {A B C : HP} (s : St W w (A :: B :: C :: R)) : St W w (A :: R) := St.drop (St.pick 1 (St.drop (St.pick 1 s)))

set_option maxRecDepth 100000 in
set_option maxHeartbeats 8000000 in
theorem shuffle_swap (st : St W w (OvA b d O :: R)) (h : OOK O) (hs : m.peer ≠ O.V.self) (he : ¬ 0 < m.hops ∨ fwdN O p m = []) (hp : Rds W R 1 m.pa m.pn m.pc (ivs m.ps)) (hpn : m.pn ≤ 1000) (hL : O.L.length ≤ 4000)
    (K : ∀ pa pn pc w', St W w' (OvA b d (swapO O m pa pn pc) :: R) → post (.returned (.tuple #[])) w') :
    Calls Tryz.prog 56 #[.pointer (some ⟨b, 0, none⟩), .int .i64 p, .agg m.cells.toArray] w post := by
  have HK := hid K; clear K
  have HO := hid h
  have hb : (m.peer == O.V.self) = false := by simp [hs]
  have HE := hid he
  have HPR := hid hp
  have HPN := hid hpn; have HL := hid hL
  have HPV : Hid (O.V.p.length ≤ 4096) := hid (Nat.le_trans h.v.np4 (by decide))
  clear h hs he hp hpn hL
  go_enter Tryz.func56, Tryz.ntmps56
  go_wp2_with (first
    | (replace st := hid st; refine wpl_boxA (vs := m.cells) rfl (.tmp 2) rfl rfl st.out ?_; rintro T w1 s1; obtain ⟨v, t⟩ := OvA.open (St.pick 1 s1); have k0 := row1c t; obtain ⟨_, k1, _⟩ := boxM (St.pick 8 t); clear st))
  go_quiet (first | (go_at_call 84; refine oself_c ((St.pick 6 t).drewN _) ⟨rfl, _, rfl⟩))
  have u := OvA.close (O := O) (v := v) (t.drewN nq)
  generalize w1.drewN nq = w2 at u ⊢
  clear t s1 k0 k1
  obtain ⟨_, j1, j2, _⟩ := boxM (St.pick 1 u)
  by_cases h0 : 0 < m.hops
  · have hh : decide (0 < m.hops) = true := decide_eq_true h0
    have HE0 := hid (HE.out.resolve_left (by omega))
    clear h0
    have s2 := u.alloc #[.int .i64 p, .int .i64 m.peer] 3
    go_wp2_with (first
      | (go_at_call 52; refine others_c (R := row w2.heap.size 0 [.int .i64 p, .int .i64 m.peer] :: row T 0 m.cells :: R) (but := [p, m.peer]) (s2.perm [1]) HO.out (fun w' s => St.rowRd (sz := 1) (n := 2) s rfl (by decide) (ivs_one [p, m.peer])) ?_; rintro ao n c w6 s6
         have hn0 : n = 0 := by
           have h1 : (fwdN O p m).length = n := ivs_len (OwnS.rd s6)
           rw [HE0.out] at h1; exact h1.symm
         subst hn0
         obtain ⟨_, _, q2, _⟩ := boxM (St.pick 3 s6)
         have x := St.sel2' (St.sel2' (St.pick 1 s6))
         obtain ⟨v2, t2⟩ := OvA.open x
         have r0 := row1c t2)
      | (go_at_call 21; refine passive_c (St.pick 6 t2) HPV.out ?_; rintro a7 c7 w7 s7)
      | (go_at_call 96; refine delF101_c (g := fun x => x == m.peer) (s7.perm [0, 8]) HPV.out pred101 ?_; rintro n8 w8 s8))
    have s8' : St W w8 (OwnS 1 a7 n8 c7 (ivs (namesL O m.peer)) :: row T 0 m.cells :: ViewsA v2 O.V :: row b 0 [.pointer (some ⟨v2, 0, none⟩)] :: NewsA b 1 O.L O.C :: row b 3 (ivs O.cfg) :: row b 23 [.pointer (some ⟨d, 0, none⟩)] :: row b 24 (ivs O.heard) :: row b 36 [.int .i64 O.ticks, .int .i64 O.asked, .int .i64 O.since] :: DiceA d O.D :: R) := s8
    have y := s8'.drew
    clear s8 s8' t2 s7 x
    have hnl : n8 ≤ 4096 := by
      have h1 : (namesL O m.peer).length = n8 := ivs_len (OwnS.rd y)
      have h2 : (namesL O m.peer).length ≤ O.V.p.length := List.length_filter_le _ _
      have := HPV.out; omega
    have hb8 : n8 * 8 ≤ 140737488355328 - 8 := by omega
    have HB := hid hb8
    clear hnl hb8
    have f := fun (w' : World) (R1 R2 : List HP) (s1 : St W w' (row b 23 [.pointer (some ⟨d, 0, none⟩)] :: R1)) (s2 : St W w' (row T 0 m.cells :: R2)) =>
      show w'.cell? ⟨b, 23, none⟩ = some (.pointer (some ⟨d, 0, none⟩)) ∧ w'.cell? ⟨T, 1, none⟩ = some (.int .i64 m.peer) ∧ w'.cell? ⟨T, 4, none⟩ = some (.slice m.pa m.pn m.pc) from
        ⟨row1c s1, (boxM s2).2.1, (boxM s2).2.2.2.2.1⟩
    have FF := hid f
    have gA := f _ _ _ (St.pick 6 y) (St.pick 1 y)
    clear f
    obtain ⟨F1, hF1⟩ : ∃ F1, (someF m.pn O.D (namesL O m.peer)).1 = F1 := ⟨_, rfl⟩
    obtain ⟨F2, hF2⟩ : ∃ F2, (someF m.pn O.D (namesL O m.peer)).2.1 = F2 := ⟨_, rfl⟩
    have HF := hid (And.intro hF1 hF2)
    clear hF1 hF2
    go_region_held3 (fun w' => w'.cell? ⟨b, 23, none⟩ = some (.pointer (some ⟨d, 0, none⟩)) ∧ w'.cell? ⟨T, 1, none⟩ = some (.int .i64 m.peer) ∧ w'.cell? ⟨T, 4, none⟩ = some (.slice m.pa m.pn m.pc))
      (first
        | with_reducible exact gC
        | with_reducible exact gB
        | with_reducible exact gA)
      (first
        | (go_at_call 92; refine some_c (k := (m.pn : Int)) (St.pick 9 y) (OwnS.rd y) HB.out ?_; rintro a9 n9 c9 w9 s9; rw [show ((m.pn : Int)).toNat = m.pn from rfl, HF.out.1, HF.out.2] at s9; have gB := FF.out _ _ _ (St.pick 8 s9) (St.pick 3 s9))
        | (go_at_call 44; refine send_c (to := m.peer) (m := swapM a9 n9 c9 F2) (s9.perm [6, 0]) (by have := HL.out; omega) ?_; rintro wA sA; have gC := FF.out _ _ _ (St.pick 7 sA) (St.pick 3 sA)))
    all_goals
      have t := OvA.close (O := { O with D := F1, L := O.L ++ [⟨m.peer, swapM a9 n9 c9 F2⟩] }) (v := v2) (sA.perm [5, 0, 4, 4, 4, 4, 3, 0])
      have t1 : St W _ (OvA b d { O with D := F1, L := O.L ++ [⟨m.peer, swapM a9 n9 c9 F2⟩] } :: row T 0 m.cells :: R) := St.sel2' t
      clear sA t
      obtain ⟨_, e1, _, _, e4, _⟩ := boxM (St.pick 1 t1)
      have hT : T < wA.heap.size := World.block_lt_of_cell? _ (a := ⟨T, 4, none⟩) e4
      have s12 := St.rowOwn (sz := 1) (n := 1) (t1.alloc #[.int .i64 m.peer] 3) rfl (by decide) (ivs_one [m.peer])
      have rP := HPR.out.cons.cons _ s12.drop
      have hm1 : 1 + m.pn ≤ maxLen := by have := HPN.out; unfold maxLen; omega
      have hb1 : (1 + m.pn) * 8 ≤ 140737488355328 := by have := HPN.out; omega
      go_wp2_with (first
        | (at_builtin; refine wpl_append rfl _ _ rfl Tryz.elem24 rfl rfl s12 rP hb1 hm1 ?_; rintro aC cC wC sC)
        | (go_at_call 57; refine learnAll_c (O := { O with D := F1, L := O.L ++ [⟨m.peer, swapM a9 n9 c9 F2⟩] }) (l := m.peer :: m.ps) (St.pick 1 sC) (HO.out.put F1 _) (fun w' s => OwnS.rd s) (by have := HPN.out; omega) ?_; rintro wD sD))
      go_end0
      refine HK.out a9 n9 c9 _ ?_
      unfold swapO
      rw [HF.out.1, HF.out.2]
      exact St.sel3 sD
  · have hh : decide (0 < m.hops) = false := decide_eq_false h0
    clear h0
    have s2 := u.alloc #[.int .i64 p, .int .i64 m.peer] 3
    go_wp2_with (first
      | (go_at_call 52; refine others_c (R := row w2.heap.size 0 [.int .i64 p, .int .i64 m.peer] :: row T 0 m.cells :: R) (but := [p, m.peer]) (s2.perm [1]) HO.out (fun w' s => St.rowRd (sz := 1) (n := 2) s rfl (by decide) (ivs_one [p, m.peer])) ?_; rintro ao n c w6 s6
         obtain ⟨_, _, q2, _⟩ := boxM (St.pick 3 s6)
         have x := St.sel2' (St.sel2' (St.pick 1 s6))
         obtain ⟨v2, t2⟩ := OvA.open x
         have r0 := row1c t2)
      | (go_at_call 21; refine passive_c (St.pick 6 t2) HPV.out ?_; rintro a7 c7 w7 s7)
      | (go_at_call 96; refine delF101_c (g := fun x => x == m.peer) (s7.perm [0, 8]) HPV.out pred101 ?_; rintro n8 w8 s8))
    have s8' : St W w8 (OwnS 1 a7 n8 c7 (ivs (namesL O m.peer)) :: row T 0 m.cells :: ViewsA v2 O.V :: row b 0 [.pointer (some ⟨v2, 0, none⟩)] :: NewsA b 1 O.L O.C :: row b 3 (ivs O.cfg) :: row b 23 [.pointer (some ⟨d, 0, none⟩)] :: row b 24 (ivs O.heard) :: row b 36 [.int .i64 O.ticks, .int .i64 O.asked, .int .i64 O.since] :: DiceA d O.D :: R) := s8
    have y := s8'.drew
    clear s8 s8' t2 s7 x
    have hnl : n8 ≤ 4096 := by
      have h1 : (namesL O m.peer).length = n8 := ivs_len (OwnS.rd y)
      have h2 : (namesL O m.peer).length ≤ O.V.p.length := List.length_filter_le _ _
      have := HPV.out; omega
    have hb8 : n8 * 8 ≤ 140737488355328 - 8 := by omega
    have HB := hid hb8
    clear hnl hb8
    have f := fun (w' : World) (R1 R2 : List HP) (s1 : St W w' (row b 23 [.pointer (some ⟨d, 0, none⟩)] :: R1)) (s2 : St W w' (row T 0 m.cells :: R2)) =>
      show w'.cell? ⟨b, 23, none⟩ = some (.pointer (some ⟨d, 0, none⟩)) ∧ w'.cell? ⟨T, 1, none⟩ = some (.int .i64 m.peer) ∧ w'.cell? ⟨T, 4, none⟩ = some (.slice m.pa m.pn m.pc) from
        ⟨row1c s1, (boxM s2).2.1, (boxM s2).2.2.2.2.1⟩
    have FF := hid f
    have gA := f _ _ _ (St.pick 6 y) (St.pick 1 y)
    clear f
    obtain ⟨F1, hF1⟩ : ∃ F1, (someF m.pn O.D (namesL O m.peer)).1 = F1 := ⟨_, rfl⟩
    obtain ⟨F2, hF2⟩ : ∃ F2, (someF m.pn O.D (namesL O m.peer)).2.1 = F2 := ⟨_, rfl⟩
    have HF := hid (And.intro hF1 hF2)
    clear hF1 hF2
    go_region_held3 (fun w' => w'.cell? ⟨b, 23, none⟩ = some (.pointer (some ⟨d, 0, none⟩)) ∧ w'.cell? ⟨T, 1, none⟩ = some (.int .i64 m.peer) ∧ w'.cell? ⟨T, 4, none⟩ = some (.slice m.pa m.pn m.pc))
      (first
        | with_reducible exact gC
        | with_reducible exact gB
        | with_reducible exact gA)
      (first
        | (go_at_call 92; refine some_c (k := (m.pn : Int)) (St.pick 9 y) (OwnS.rd y) HB.out ?_; rintro a9 n9 c9 w9 s9; rw [show ((m.pn : Int)).toNat = m.pn from rfl, HF.out.1, HF.out.2] at s9; have gB := FF.out _ _ _ (St.pick 8 s9) (St.pick 3 s9))
        | (go_at_call 44; refine send_c (to := m.peer) (m := swapM a9 n9 c9 F2) (s9.perm [6, 0]) (by have := HL.out; omega) ?_; rintro wA sA; have gC := FF.out _ _ _ (St.pick 7 sA) (St.pick 3 sA)))
    all_goals
      have t := OvA.close (O := { O with D := F1, L := O.L ++ [⟨m.peer, swapM a9 n9 c9 F2⟩] }) (v := v2) (sA.perm [5, 0, 4, 4, 4, 4, 3, 0])
      have t1 : St W _ (OvA b d { O with D := F1, L := O.L ++ [⟨m.peer, swapM a9 n9 c9 F2⟩] } :: row T 0 m.cells :: R) := St.sel2' t
      clear sA t
      obtain ⟨_, e1, _, _, e4, _⟩ := boxM (St.pick 1 t1)
      have hT : T < wA.heap.size := World.block_lt_of_cell? _ (a := ⟨T, 4, none⟩) e4
      have s12 := St.rowOwn (sz := 1) (n := 1) (t1.alloc #[.int .i64 m.peer] 3) rfl (by decide) (ivs_one [m.peer])
      have rP := HPR.out.cons.cons _ s12.drop
      have hm1 : 1 + m.pn ≤ maxLen := by have := HPN.out; unfold maxLen; omega
      have hb1 : (1 + m.pn) * 8 ≤ 140737488355328 := by have := HPN.out; omega
      go_wp2_with (first
        | (at_builtin; refine wpl_append rfl _ _ rfl Tryz.elem24 rfl rfl s12 rP hb1 hm1 ?_; rintro aC cC wC sC)
        | (go_at_call 57; refine learnAll_c (O := { O with D := F1, L := O.L ++ [⟨m.peer, swapM a9 n9 c9 F2⟩] }) (l := m.peer :: m.ps) (St.pick 1 sC) (HO.out.put F1 _) (fun w' s => OwnS.rd s) (by have := HPN.out; omega) ?_; rintro wD sD))
      go_end0
      refine HK.out a9 n9 c9 _ ?_
      unfold swapO
      rw [HF.out.1, HF.out.2]
      exact St.sel3 sD

end

end Go.Proofs.YtbpdchaeakihkaaGreat
