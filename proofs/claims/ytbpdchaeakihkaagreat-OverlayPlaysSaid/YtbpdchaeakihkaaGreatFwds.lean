/- Fwds: several texts, joined. The overlay: pass. -/
import Derived.Test.YtbpdchaeakihkaaGreatTakes
namespace Go.Proofs.YtbpdchaeakihkaaGreat
open Go.RowKit Go.Qd

/-- A message that goes on, one hop less. -/
def onM (m : MsgV) (pa : Option Addr) (pn pc : Nat) : MsgV := { m with hops := m.hops - 1, pa := pa, pn := pn, pc := pc }
def passO (O : OV) (m : MsgV) (nx : List Int) (pa : Option Addr) (pn pc : Nat) : OV := { O with D := drawL O.D nx.length, L := O.L ++ [⟨pickV O.D nx, onM m pa pn pc⟩] }

section
variable {W w : World} {R : List HP} {post : Ending → World → Prop} {b d : Nat} {O : OV} {m : MsgV} {p : Int}
attribute [local go_sem ↓] execOp_load58

set_option maxRecDepth 100000 in
set_option maxHeartbeats 4000000 in
theorem pass_c {na : Option Addr} {nn nc : Nat} {nx : List Int} (st : St W w (OvA b d O :: R)) (hp : Rds W R 1 m.pa m.pn m.pc (ivs m.ps)) (hpn : m.pn ≤ 4096) (hn : Rds W R 1 na nn nc (ivs nx)) (hne : nx ≠ []) (hh : 0 ≤ m.hops ∧ m.hops ≤ 1000) (hL : O.L.length ≤ 4000)
    (K : ∀ pa pc w', St W w' (OvA b d (passO O m nx pa m.pn pc) :: R) → post (.returned (.tuple #[])) w') :
    Calls Tryz.prog 99 #[.pointer (some ⟨b, 0, none⟩), .agg m.cells.toArray, .slice na nn nc] w post := by
  have HK := hid K; clear K
  have HPR := hid hp; have HNR := hid hn; have HNE := hid hne
  have HP8 : Hid (m.pn * 8 ≤ 140737488355328) := hid (by omega)
  have hw : IntKind.i64.wrap (m.hops - 1) = m.hops - 1 := IntWalk.i64_in _ (by omega)
  have HL := hid hL
  clear hp hn hne hL
  go_enter Tryz.func99, Tryz.ntmps99
  go_wp2_with (first
    | (replace st := hid st; refine wpl_boxA (vs := m.cells) rfl (.tmp 1) rfl rfl st.out ?_; rintro T w1 s1; obtain ⟨_, _, g2, _, g4, _⟩ := boxM s1; have f2 := boxMf s1 2 (by decide); have f4 := boxMf s1 4 (by decide)
       have s2 := s1.rowSet (i := 2) (by simp [MsgV.cells]) (.int .i64 (m.hops - 1)); rw [Nat.zero_add] at s2
       have s2' : St W (w1.setCell ⟨T, 2, none⟩ (.int .i64 (m.hops - 1))) (row T 0 (MsgV.cells { m with hops := m.hops - 1 }) :: OvA b d O :: R) := s2
       obtain ⟨_, _, _, _, h4, _⟩ := boxM s2'
       clear st s2)
    | (go_at_call 41; refine clone_c s2' (HPR.out _ (s2'.dropN 2)) HP8.out ?_; rintro pa pc w3 s3
       have e4 := (St.pick 1 s3).rowSet (i := 4) (by simp [MsgV.cells]) (.slice pa m.pn pc); rw [Nat.zero_add] at e4
       obtain ⟨_, _, _, _, q4, _⟩ := boxM (St.pick 1 s3); have u4 := boxMf (St.pick 1 s3) 4 (by decide)
       have s4 : St W (w3.setCell ⟨T, 4, none⟩ (.slice pa m.pn pc)) (row T 0 (MsgV.cells (onM m pa m.pn pc)) :: OwnS 1 pa m.pn pc (ivs m.ps) :: OvA b d O :: R) := e4
       obtain ⟨v, t⟩ := OvA.open (St.pick 2 s4)
       have k0 := row1c (St.pick 3 t)
       clear s3 e4 s2')
    | (go_at_call 90; refine pick_c (zs := nx) (St.pick 7 t) (fun w' s => HNR.out _ (s.dropN 9)) ?_; rintro w5 s5; rw [if_neg HNE.out] at s5; rw [if_neg HNE.out]))
  have u := s5.drew
  have f := fun (w' : World) (R' : List HP) (s : St W w' (row T 0 (MsgV.cells (onM m pa m.pn pc)) :: R')) => show (loadG 58 (.pointer (some ⟨T, 0, none⟩))).run Tryz.prog w' = .ok (.agg (MsgV.cells (onM m pa m.pn pc)).toArray) w' from lg58 s
  have FF := hid f
  have gA := f _ _ (St.pick 8 u)
  clear f
  obtain ⟨pv, hpv⟩ : ∃ pv, pickV O.D nx = pv := ⟨_, rfl⟩
  have HPV := hid hpv
  rw [hpv]
  clear hpv
  go_region_held3 (fun w' => (loadG 58 (.pointer (some ⟨T, 0, none⟩))).run Tryz.prog w' = .ok (.agg (MsgV.cells (onM m pa m.pn pc)).toArray) w')
    (first
      | with_reducible exact gB
      | with_reducible exact gA)
    (first | (go_at_call 44; refine send_c (to := pv) (m := onM m pa m.pn pc) (u.perm [2, 8]) (by have := HL.out; omega) ?_; rintro w6 s6; have gB := FF.out _ _ (St.pick 8 s6)))
  all_goals
    go_end0
    have u2 := OvA.close (O := { O with D := drawL O.D nx.length, L := O.L ++ [⟨pv, onM m pa m.pn pc⟩] }) (v := v) (s6.perm [2, 0, 1, 1, 1, 1, 1, 0])
    exact HK.out pa pc _ (by unfold passO; rw [HPV.out]; exact St.drop (St.pick 1 u2))
end

end Go.Proofs.YtbpdchaeakihkaaGreat

/- The overlay: forward. -/
namespace Go.Proofs.YtbpdchaeakihkaaGreat
open Go.RowKit Go.Qd

def nbM : MsgV := { kindM 3 with high := true }
def fwdN (O : OV) (p : Int) (m : MsgV) : List Int := othersL O [p, m.peer]
/-- The news of a joiner is taken. -/
def forwardO (O : OV) (p : Int) (m : MsgV) (pa : Option Addr) (pc : Nat) : OV :=
  if m.peer = O.V.self then O
  else if m.hops = 0 ∨ fwdN O p m = [] then (if memB O.V.a m.peer = true then O else { raiseO O m.peer with L := (raiseO O m.peer).L ++ [⟨m.peer, nbM⟩] })
  else passO (if m.hops = O.cfg.getD 8 0 then learnO O m.peer else O) m (fwdN O p m) pa m.pn pc

section
variable {W w : World} {R : List HP} {post : Ending → World → Prop} {b d : Nat} {O : OV} {m : MsgV} {p : Int}
attribute [local go_sem ↓] execOp_load58

/-- It was the node's own news. -/
theorem forward_self (st : St W w (OvA b d O :: R)) (h : OOK O) (hs : m.peer = O.V.self) (K : ∀ w', St W w' (OvA b d O :: R) → post (.returned (.tuple #[])) w') :
    Calls Tryz.prog 53 #[.pointer (some ⟨b, 0, none⟩), .int .i64 p, .agg m.cells.toArray] w post := by
  have HK := hid K; clear K
  have HO := hid h
  have HS := hid hs
  clear h hs
  go_enter Tryz.func53, Tryz.ntmps53
  go_wp2_with (first
    | (replace st := hid st; refine wpl_boxA (vs := m.cells) rfl (.tmp 2) rfl rfl st.out ?_; rintro T w1 s1; obtain ⟨_, g1, _⟩ := boxM s1; have s2 := s1.alloc #[.int .i64 p, .int .i64 m.peer] 3; clear st)
    | (go_at_call 52; refine others_c (R := row w1.heap.size 0 [.int .i64 p, .int .i64 m.peer] :: row T 0 m.cells :: R) (but := [p, m.peer]) (s2.perm [2]) HO.out (fun w' s => St.rowRd (sz := 1) (n := 2) s rfl (by decide) (ivs_one [p, m.peer])) ?_; rintro ao n c w6 s6; obtain ⟨v, t⟩ := OvA.open (St.pick 1 s6); have k0 := row1c t; obtain ⟨_, k1, _⟩ := boxM (St.pick 10 t); rw [HS.out] at k1))
  go_quiet (first | (go_at_call 84; refine oself_c ((St.pick 6 t).drewN _) ⟨rfl, _, rfl⟩))
  have u := OvA.close (O := O) (v := v) (t.drewN nq)
  go_wp2_with fail
  go_end0
  exact HK.out _ (St.drop (St.pick 1 (St.drop (St.pick 1 (St.drop (St.pick 1 u))))))

set_option maxRecDepth 100000 in
set_option maxHeartbeats 4000000 in
/-- No further: whom it tells of is a neighbour already. -/
theorem forward_end1 (st : St W w (OvA b d O :: R)) (h : OOK O) (hs : m.peer ≠ O.V.self) (he : m.hops = 0 ∨ fwdN O p m = []) (hm : memB O.V.a m.peer = true) (K : ∀ w', St W w' (OvA b d O :: R) → post (.returned (.tuple #[])) w') :
    Calls Tryz.prog 53 #[.pointer (some ⟨b, 0, none⟩), .int .i64 p, .agg m.cells.toArray] w post := by
  have HK := hid K; clear K
  have HO := hid h
  have hb : (m.peer == O.V.self) = false := by simp [hs]
  have HM := hid hm
  have HE := hid he
  clear h hs hm he
  go_enter Tryz.func53, Tryz.ntmps53
  go_wp2_with (first
    | (replace st := hid st; refine wpl_boxA (vs := m.cells) rfl (.tmp 2) rfl rfl st.out ?_; rintro T w1 s1; obtain ⟨_, g1, _⟩ := boxM s1; have s2 := s1.alloc #[.int .i64 p, .int .i64 m.peer] 3; clear st)
    | (go_at_call 52; refine others_c (R := row w1.heap.size 0 [.int .i64 p, .int .i64 m.peer] :: row T 0 m.cells :: R) (but := [p, m.peer]) (s2.perm [2]) HO.out (fun w' s => St.rowRd (sz := 1) (n := 2) s rfl (by decide) (ivs_one [p, m.peer])) ?_; rintro ao n c w6 s6; obtain ⟨v, t⟩ := OvA.open (St.pick 1 s6); have k0 := row1c t; obtain ⟨_, k1, k2, _⟩ := boxM (St.pick 10 t)))
  go_quiet (first | (go_at_call 84; refine oself_c ((St.pick 6 t).drewN _) ⟨rfl, _, rfl⟩))
  have u := t.drewN nq
  have HNN : Hid ((fwdN O p m).length = n) := hid (ivs_len (OwnS.rd s6))
  generalize w6.drewN nq = w7 at u ⊢
  have j0 := row1c u
  obtain ⟨_, j1, j2, _⟩ := boxM (St.pick 10 u)
  by_cases h0 : m.hops = 0
  · have hh : (m.hops == 0) = true := by simp [h0]
    clear h0
    go_wp2_with fail
    go_quiet (first | (go_at_call 46; refine isActive_c ((St.pick 6 u).drewN _) ?_; rw [HM.out]; exact ⟨rfl, _, rfl⟩))
    have u2 := OvA.close (O := O) (v := v) (u.drewN nq)
    go_wp2_with fail
    go_end0
    exact HK.out _ (St.drop (St.pick 1 (St.drop (St.pick 1 (St.drop (St.pick 1 u2))))))
  · have hh : (m.hops == 0) = false := by simp [h0]
    have hn0 : n = 0 := by have := HNN.out; rw [HE.out.resolve_left h0] at this; simpa using this.symm
    subst hn0
    clear h0
    go_wp2_with fail
    go_quiet (first | (go_at_call 46; refine isActive_c ((St.pick 6 u).drewN _) ?_; rw [HM.out]; exact ⟨rfl, _, rfl⟩))
    have u2 := OvA.close (O := O) (v := v) (u.drewN nq)
    go_wp2_with fail
    go_end0
    exact HK.out _ (St.drop (St.pick 1 (St.drop (St.pick 1 (St.drop (St.pick 1 u2))))))

set_option maxRecDepth 100000 in
set_option maxHeartbeats 4000000 in
/-- No further: whom it tells of is raised, and told so. -/
theorem forward_end2 (st : St W w (OvA b d O :: R)) (h : OOK O) (hs : m.peer ≠ O.V.self) (he : m.hops = 0 ∨ fwdN O p m = []) (hm : memB O.V.a m.peer = false) (hL : O.L.length ≤ 1000) (hC : O.C.length ≤ 1000)
    (K : ∀ w', St W w' (OvA b d { raiseO O m.peer with L := (raiseO O m.peer).L ++ [⟨m.peer, nbM⟩] } :: R) → post (.returned (.tuple #[])) w') :
    Calls Tryz.prog 53 #[.pointer (some ⟨b, 0, none⟩), .int .i64 p, .agg m.cells.toArray] w post := by
  have HK := hid K; clear K
  have HO := hid h
  have HLR : Hid ((raiseO O m.peer).L.length ≤ 1001) := hid (by have := raiseO_len O m.peer; omega)
  have hb : (m.peer == O.V.self) = false := by simp [hs]
  have HM := hid hm
  have HE := hid he
  clear h hs hm he
  go_enter Tryz.func53, Tryz.ntmps53
  go_wp2_with (first
    | (replace st := hid st; refine wpl_boxA (vs := m.cells) rfl (.tmp 2) rfl rfl st.out ?_; rintro T w1 s1; obtain ⟨_, g1, _⟩ := boxM s1; have s2 := s1.alloc #[.int .i64 p, .int .i64 m.peer] 3; clear st)
    | (go_at_call 52; refine others_c (R := row w1.heap.size 0 [.int .i64 p, .int .i64 m.peer] :: row T 0 m.cells :: R) (but := [p, m.peer]) (s2.perm [2]) HO.out (fun w' s => St.rowRd (sz := 1) (n := 2) s rfl (by decide) (ivs_one [p, m.peer])) ?_; rintro ao n c w6 s6; obtain ⟨v, t⟩ := OvA.open (St.pick 1 s6); have k0 := row1c t; obtain ⟨_, k1, k2, _⟩ := boxM (St.pick 10 t)))
  go_quiet (first | (go_at_call 84; refine oself_c ((St.pick 6 t).drewN _) ⟨rfl, _, rfl⟩))
  have u := t.drewN nq
  have HNN : Hid ((fwdN O p m).length = n) := hid (ivs_len (OwnS.rd s6))
  generalize w6.drewN nq = w7 at u ⊢
  have j0 := row1c u
  obtain ⟨_, j1, j2, _⟩ := boxM (St.pick 10 u)
  by_cases h0 : m.hops = 0
  · have hh : (m.hops == 0) = true := by simp [h0]
    clear h0
    go_wp2_with fail
    go_quiet (first | (go_at_call 46; refine isActive_c ((St.pick 6 u).drewN _) ?_; rw [HM.out]; exact ⟨rfl, _, rfl⟩))
    have u2 := OvA.close (O := O) (v := v) (u.drewN nq)
    generalize w7.drewN nq = w8 at u2 ⊢
    obtain ⟨_, i1, _⟩ := boxM (St.pick 3 u2)
    go_wp2_with (go_at_call 43; refine oraise_c u2 HO.out (by omega) (by omega) ?_; rintro w9 s9; obtain ⟨v9, t9⟩ := OvA.open s9)
    have u9 := t9.drew
    have gA := (boxM (St.pick 10 u9)).2.1
    go_region_held3 (fun w' => w'.cell? ⟨T, 1, none⟩ = some (.int .i64 m.peer))
      (first
        | with_reducible exact gB
        | with_reducible exact gA)
      (first | (go_at_call 44; refine send_c (to := m.peer) (m := nbM) ((OwnS.none0 (sz := 1) u9).perm [2, 0]) (by have := HLR.out; omega) ?_; rintro wA sA; have gB := (boxM (St.pick 10 sA)).2.1))
    all_goals
      go_end0
      have x := OvA.close (O := { raiseO O m.peer with L := (raiseO O m.peer).L ++ [⟨m.peer, nbM⟩] }) (v := v9) (sA.perm [1])
      exact HK.out _ (St.drop (St.pick 1 (St.drop (St.pick 1 (St.drop (St.pick 1 x))))))
  · have hh : (m.hops == 0) = false := by simp [h0]
    have hn0 : n = 0 := by have := HNN.out; rw [HE.out.resolve_left h0] at this; simpa using this.symm
    subst hn0
    clear h0
    go_wp2_with fail
    go_quiet (first | (go_at_call 46; refine isActive_c ((St.pick 6 u).drewN _) ?_; rw [HM.out]; exact ⟨rfl, _, rfl⟩))
    have u2 := OvA.close (O := O) (v := v) (u.drewN nq)
    generalize w7.drewN nq = w8 at u2 ⊢
    obtain ⟨_, i1, _⟩ := boxM (St.pick 3 u2)
    go_wp2_with (go_at_call 43; refine oraise_c u2 HO.out (by omega) (by omega) ?_; rintro w9 s9; obtain ⟨v9, t9⟩ := OvA.open s9)
    have u9 := t9.drew
    have gA := (boxM (St.pick 10 u9)).2.1
    go_region_held3 (fun w' => w'.cell? ⟨T, 1, none⟩ = some (.int .i64 m.peer))
      (first
        | with_reducible exact gB
        | with_reducible exact gA)
      (first | (go_at_call 44; refine send_c (to := m.peer) (m := nbM) ((OwnS.none0 (sz := 1) u9).perm [2, 0]) (by have := HLR.out; omega) ?_; rintro wA sA; have gB := (boxM (St.pick 10 sA)).2.1))
    all_goals
      go_end0
      have x := OvA.close (O := { raiseO O m.peer with L := (raiseO O m.peer).L ++ [⟨m.peer, nbM⟩] }) (v := v9) (sA.perm [1])
      exact HK.out _ (St.drop (St.pick 1 (St.drop (St.pick 1 (St.drop (St.pick 1 x))))))

end

end Go.Proofs.YtbpdchaeakihkaaGreat

/- The overlay: forward, passed on. -/
namespace Go.Proofs.YtbpdchaeakihkaaGreat
open Go.RowKit Go.Qd

section
variable {W w : World} {R : List HP} {post : Ending → World → Prop} {b d : Nat} {O : OV} {m : MsgV} {p : Int}
attribute [local go_sem ↓] execOp_load58

theorem cfg8 {c : List Int} (hc : c.length = 20) (s : St W w (row b 3 (ivs c) :: R)) : w.cell? ⟨b, 11, none⟩ = some (.int .i64 (c.getD 8 0)) := cfg_off (i := 8) s (by rw [hc]; omega)

set_option maxRecDepth 100000 in
set_option maxHeartbeats 4000000 in
/-- The news goes on. -/
theorem forward_on (st : St W w (OvA b d O :: R)) (h : OOK O) (hs : m.peer ≠ O.V.self) (h0 : m.hops ≠ 0) (hne : fwdN O p m ≠ []) (hp : Rds W R 1 m.pa m.pn m.pc (ivs m.ps)) (hpn : m.pn ≤ 4096) (hho : 0 ≤ m.hops ∧ m.hops ≤ 1000) (hL : O.L.length ≤ 4000)
    (K : ∀ pa pc w', St W w' (OvA b d (passO (if m.hops = O.cfg.getD 8 0 then learnO O m.peer else O) m (fwdN O p m) pa m.pn pc) :: R) → post (.returned (.tuple #[])) w') :
    Calls Tryz.prog 53 #[.pointer (some ⟨b, 0, none⟩), .int .i64 p, .agg m.cells.toArray] w post := by
  have HK := hid K; clear K
  have HO := hid h
  have HC := hid h.cl
  have hb : (m.peer == O.V.self) = false := by simp [hs]
  have hh : (m.hops == 0) = false := by simp [h0]
  have HNE := hid hne
  have HPR := hid hp
  have HPN := hid hpn; have HHO := hid hho; have HL := hid hL
  clear h hs h0 hne hp hpn hho hL
  go_enter Tryz.func53, Tryz.ntmps53
  go_wp2_with (first
    | (replace st := hid st; refine wpl_boxA (vs := m.cells) rfl (.tmp 2) rfl rfl st.out ?_; rintro T w1 s1; obtain ⟨_, g1, _⟩ := boxM s1; have s2 := s1.alloc #[.int .i64 p, .int .i64 m.peer] 3; clear st)
    | (go_at_call 52; refine others_c (R := row w1.heap.size 0 [.int .i64 p, .int .i64 m.peer] :: row T 0 m.cells :: R) (but := [p, m.peer]) (s2.perm [2]) HO.out (fun w' s => St.rowRd (sz := 1) (n := 2) s rfl (by decide) (ivs_one [p, m.peer])) ?_; rintro ao n c w6 s6; obtain ⟨v, t⟩ := OvA.open (St.pick 1 s6); have k0 := row1c t; obtain ⟨_, k1, k2, _⟩ := boxM (St.pick 10 t)))
  go_quiet (first | (go_at_call 84; refine oself_c ((St.pick 6 t).drewN _) ⟨rfl, _, rfl⟩))
  have u := t.drewN nq
  have HNN : Hid ((fwdN O p m).length = n) := hid (ivs_len (OwnS.rd s6))
  generalize w6.drewN nq = w7 at u ⊢
  have j0 := row1c u
  obtain ⟨_, j1, j2, _⟩ := boxM (St.pick 10 u)
  have hn0 : n ≠ 0 := by rw [← HNN.out]; exact fun g => HNE.out (List.eq_nil_of_length_eq_zero g)
  have hnb : ((n : Int) == 0) = false := by simp [hn0]
  have j3 := cfg8 HC.out (St.pick 2 u)
  obtain ⟨dr, hdr⟩ : ∃ dr, O.cfg.getD 8 0 = dr := ⟨_, rfl⟩
  rw [hdr] at j3 HK
  clear hdr
  by_cases hd : m.hops = dr
  · have hdb : (m.hops == dr) = true := by simp [hd]
    rw [if_pos hd] at HK
    clear hd hn0
    go_wp2_with fail
    go_quiet (fail)
    have u2 := u.drewN nq
    generalize w7.drewN nq = w8 at u2 ⊢
    have u3 := u2.drew
    have i0 := row1c u3
    have i1 := row1c (St.pick 3 u3)
    have i2 := (boxM (St.pick 10 u3)).2.1
    go_wp2_with fail
    go_region_law (go_simp; go_at_call 47; refine learn_c (u3.perm [6, 6]) HO.out.v ?_; rintro w9 s9)
    all_goals
      have x := OvA.close (O := learnO O m.peer) (v := v) (s9.perm [2, 2, 2, 2, 2, 2, 0, 0])
      have f58 := lg58 (St.pick 3 x)
      go_wp2_with (go_at_call 99; refine pass_c (nx := fwdN O p m) x (HPR.out.cons.cons.cons) HPN.out (fun w' s => OwnS.rd s) HNE.out HHO.out HL.out ?_; rintro pa pc wA sA)
      go_end0
      exact HK.out _ _ _ (St.drop (St.pick 1 (St.drop (St.pick 1 (St.drop (St.pick 1 sA))))))
  · have hdb : (m.hops == dr) = false := by simp [hd]
    rw [if_neg hd] at HK
    clear hd hn0
    go_wp2_with fail
    go_quiet (fail)
    have u2 := u.drewN nq
    generalize w7.drewN nq = w8 at u2 ⊢
    have x := OvA.close (O := O) (v := v) u2
    have f58 := lg58 (St.pick 3 x)
    go_wp2_with (go_at_call 99; refine pass_c (nx := fwdN O p m) x (HPR.out.cons.cons.cons) HPN.out (fun w' s => OwnS.rd s) HNE.out HHO.out HL.out ?_; rintro pa pc wA sA)
    go_end0
    exact HK.out _ _ _ (St.drop (St.pick 1 (St.drop (St.pick 1 (St.drop (St.pick 1 sA))))))

end

end Go.Proofs.YtbpdchaeakihkaaGreat

/- The overlay: shuffle: the node's own; passed on. -/
namespace Go.Proofs.YtbpdchaeakihkaaGreat
open Go.RowKit Go.Qd

section
variable {W w : World} {R : List HP} {post : Ending → World → Prop} {b d : Nat} {O : OV} {m : MsgV} {p : Int}
attribute [local go_sem ↓] execOp_load58

set_option maxRecDepth 100000 in
set_option maxHeartbeats 4000000 in
theorem shuffle_self (st : St W w (OvA b d O :: R)) (hs : m.peer = O.V.self) (K : ∀ w', St W w' (OvA b d O :: R) → post (.returned (.tuple #[])) w') :
    Calls Tryz.prog 56 #[.pointer (some ⟨b, 0, none⟩), .int .i64 p, .agg m.cells.toArray] w post := by
  have HK := hid K; clear K
  have HS := hid hs
  clear hs
  go_enter Tryz.func56, Tryz.ntmps56
  go_wp2_with (first
    | (replace st := hid st; refine wpl_boxA (vs := m.cells) rfl (.tmp 2) rfl rfl st.out ?_; rintro T w1 s1; obtain ⟨v, t⟩ := OvA.open (St.pick 1 s1); have k0 := row1c t; obtain ⟨_, k1, _⟩ := boxM (St.pick 8 t); rw [HS.out] at k1; clear st))
  go_quiet (first | (go_at_call 84; refine oself_c ((St.pick 6 t).drewN _) ⟨rfl, _, rfl⟩))
  have u := OvA.close (O := O) (v := v) (t.drewN nq)
  go_wp2_with fail
  go_end0
  exact HK.out _ (St.drop (St.pick 1 u))

set_option maxRecDepth 100000 in
set_option maxHeartbeats 4000000 in
theorem shuffle_on (st : St W w (OvA b d O :: R)) (h : OOK O) (hs : m.peer ≠ O.V.self) (h0 : 0 < m.hops) (hne : fwdN O p m ≠ []) (hp : Rds W R 1 m.pa m.pn m.pc (ivs m.ps)) (hpn : m.pn ≤ 4096) (hho : 0 ≤ m.hops ∧ m.hops ≤ 1000) (hL : O.L.length ≤ 4000)
    (K : ∀ pa pc w', St W w' (OvA b d (passO O m (fwdN O p m) pa m.pn pc) :: R) → post (.returned (.tuple #[])) w') :
    Calls Tryz.prog 56 #[.pointer (some ⟨b, 0, none⟩), .int .i64 p, .agg m.cells.toArray] w post := by
  have HK := hid K; clear K
  have HO := hid h
  have hb : (m.peer == O.V.self) = false := by simp [hs]
  have hh : decide (0 < m.hops) = true := decide_eq_true h0
  have HNE := hid hne
  have HPR := hid hp
  have HPN := hid hpn; have HHO := hid hho; have HL := hid hL
  clear h hs h0 hne hp hpn hho hL
  go_enter Tryz.func56, Tryz.ntmps56
  go_wp2_with (first
    | (replace st := hid st; refine wpl_boxA (vs := m.cells) rfl (.tmp 2) rfl rfl st.out ?_; rintro T w1 s1; obtain ⟨v, t⟩ := OvA.open (St.pick 1 s1); have k0 := row1c t; obtain ⟨_, k1, _⟩ := boxM (St.pick 8 t); clear st))
  go_quiet (first | (go_at_call 84; refine oself_c ((St.pick 6 t).drewN _) ⟨rfl, _, rfl⟩))
  have u := OvA.close (O := O) (v := v) (t.drewN nq)
  generalize w1.drewN nq = w2 at u ⊢
  obtain ⟨_, j1, _⟩ := boxM (St.pick 1 u)
  have s2 := u.alloc #[.int .i64 p, .int .i64 m.peer] 3
  go_wp2_with (go_at_call 52; refine others_c (R := row w2.heap.size 0 [.int .i64 p, .int .i64 m.peer] :: row T 0 m.cells :: R) (but := [p, m.peer]) (s2.perm [1]) HO.out (fun w' s => St.rowRd (sz := 1) (n := 2) s rfl (by decide) (ivs_one [p, m.peer])) ?_; rintro ao n c w6 s6
               obtain ⟨_, _, q2, _⟩ := boxM (St.pick 3 s6)
               have hn0 : decide (0 < n) = true := decide_eq_true (by
                 have h1 : (fwdN O p m).length = n := ivs_len (OwnS.rd s6)
                 have h2 : 0 < (fwdN O p m).length := List.length_pos_iff.2 HNE.out
                 omega)
               have x := St.pick 1 s6
               have f58 := lg58 (St.pick 3 x))
  go_wp2_with (go_at_call 99; refine pass_c (nx := fwdN O p m) x (HPR.out.cons.cons.cons) HPN.out (fun w' s => OwnS.rd s) HNE.out HHO.out HL.out ?_; rintro pa pc wA sA)
  go_end0
  exact HK.out _ _ _ (St.drop (St.pick 1 (St.drop (St.pick 1 (St.drop (St.pick 1 sA))))))

end

end Go.Proofs.YtbpdchaeakihkaaGreat
