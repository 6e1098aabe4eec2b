/- net: put, Send, Copy. -/
import Derived.Test.YtnibgchgcggfbabNetC
import Derived.Deep.RegionLaw
namespace Go.Proofs.Ytnibgchgcggfbab
open Go.RowKit Go.Qd

def PV.val (p : PV) : Value := .agg #[.int .i64 p.f, .int .i64 p.t, .slice p.a p.n p.c, .bool p.sp]

/-- The cell of the slice of parcels is written. -/
theorem net_setL {W w : World} {R : List HP} {b : Nat} {N : NetV} {al al' : Option Addr} {n c m n' c' : Nat} (s : St W w (row b 0 (netCells N al n c m) :: R)) :
    St W (w.setCell ⟨b, 2, none⟩ (.slice al' n' c')) (row b 0 (netCells N al' n' c' m) :: R) := by
  have s1 : St W w (row b 0 [iv N.nodes, iv N.room] :: row b 2 [.slice al n c, .map (some m), iv N.dropped] :: R) :=
    St.rowAppend.1 (s : St W w (row b 0 ([iv N.nodes, iv N.room] ++ [.slice al n c, .map (some m), iv N.dropped]) :: R))
  have s2 := (St.rowCons.1 (s1.pick 1)).set (.slice al' n' c')
  have s3 := (St.rowCons.2 s2).pick 1
  exact St.rowAppend.2 s3

theorem net_setD {W w : World} {R : List HP} {b : Nat} {N : NetV} {al : Option Addr} {n c m : Nat} (s : St W w (row b 0 (netCells N al n c m) :: R)) (d : Int) :
    St W (w.setCell ⟨b, 4, none⟩ (.int .i64 d)) (row b 0 (netCells { N with dropped := d } al n c m) :: R) := by
  have s1 : St W w (row b 0 [iv N.nodes, iv N.room, .slice al n c, .map (some m)] :: row b 4 [iv N.dropped] :: R) :=
    St.rowAppend.1 (s : St W w (row b 0 ([iv N.nodes, iv N.room, .slice al n c, .map (some m)] ++ [iv N.dropped]) :: R))
  have s2 := (St.rowCons.1 (s1.pick 1)).set (.int .i64 d)
  have s3 := (St.rowCons.2 s2).pick 1
  exact St.rowAppend.2 s3

theorem box4 {W w : World} {R : List HP} {B : Nat} {x y z u : Value} (s : St W w (row B 0 [x, y, z, u] :: R)) :
    w.cell? ⟨B, 0, none⟩ = some x ∧ w.cell? ⟨B, 1, none⟩ = some y ∧ w.cell? ⟨B, 2, none⟩ = some z ∧ w.cell? ⟨B, 3, none⟩ = some u :=
  ⟨s.rowCell (i := 0) rfl, by have := s.rowCell (i := 1) rfl; rwa [Nat.zero_add] at this, by have := s.rowCell (i := 2) rfl; rwa [Nat.zero_add] at this, by have := s.rowCell (i := 3) rfl; rwa [Nat.zero_add] at this⟩

theorem pcells_snoc (ps : List PV) (p : PV) : pcells (ps ++ [p]) = pcells ps ++ p.cells := by simp [pcells]

theorem bytes_snoc {W w : World} {R : List HP} {ps : List PV} {p : PV} (s : St W w (sepL (ps.map PV.bytes) :: p.bytes :: R)) : St W w (sepL ((ps ++ [p]).map PV.bytes) :: R) := by
  rw [List.map_append]
  refine (St.flat _).2 ?_
  rw [List.append_assoc]
  exact (St.flat (ps.map PV.bytes)).1 s

def putN (N : NetV) (p : PV) : NetV := if (N.ps.length : Int) < N.room then { N with ps := N.ps ++ [p] } else { N with dropped := N.dropped + 1 }

theorem put_c {W w : World} {R : List HP} {post : Ending → World → Prop} {b : Nat} {N : NetV} {p : PV} (st : St W w (NetA b N :: p.bytes :: R)) (hr : N.room ≤ 4096) (hd : 0 ≤ N.dropped ∧ N.dropped ≤ 4611686018427387904)
    (K : ∀ w', St W w' (NetA b (putN N p) :: R) → post (.returned (.bool (decide ((N.ps.length : Int) < N.room)))) w') :
    Calls Try.prog 25 #[.pointer (some ⟨b, 0, none⟩), .agg #[.int .i64 p.f, .int .i64 p.t, .slice p.a p.n p.c, .bool p.sp]] w post := by
  have HK := hid K; clear K
  have s0 := (st.alloc #[.int .i64 p.f, .int .i64 p.t, .slice p.a p.n p.c, .bool p.sp] 76)
  obtain ⟨al, n, c, m, s⟩ := NetA.open (s0.pick 1)
  have hl := pcells_len (OwnS.rd (St.pick 1 s))
  have hbig := (OwnS.rd (St.pick 1 s)).big
  obtain ⟨_, h1, h2, _, h4⟩ := net5 s
  unfold putN at HK
  rw [hl] at HK
  have HL := hid hl; clear hl
  by_cases hlt : (n : Int) < N.room
  · simp only [hlt, if_true, decide_true] at HK
    have hnr : n < 4096 := by omega
    clear hr
    go_enter Try.func25, Try.ntmps25
    go_wp2_with fail
    go_quiet (fail)
    go_wp2_with fail
    have s1 := s.drewN nq
    generalize (w.alloc (.cells #[.int .i64 p.f, .int .i64 p.t, .slice p.a p.n p.c, .bool p.sp] 76)).drewN nq = wq at s1 ⊢
    generalize w.heap.size = B at s1 ⊢
    obtain ⟨_, _, g2, _, _⟩ := net5 s1
    have hfr := s1.rowFree (i := 2) (by simp [netCells])
    rw [Nat.zero_add] at hfr
    have hbx : St W wq (row B 0 [.int .i64 p.f, .int .i64 p.t, .slice p.a p.n p.c, .bool p.sp] :: _) := St.pick 4 s1
    obtain ⟨x0, x1, x2, x3⟩ := box4 hbx
    have hbl := World.block_lt_of_cell? _ _ g2
    have hBl := World.block_lt_of_cell? _ _ x0
    have s2 := (s1.alloc #[.int .i64 p.f, .int .i64 p.t, .slice p.a p.n p.c, .bool p.sp] 76).drew
    have hone : ∀ u ∈ [Value.int .i64 p.f, .int .i64 p.t, .slice p.a p.n p.c, .bool p.sp], u.oneCell' = true := by simp [Value.oneCell']
    have r2 := St.rowRd (sz := 4) (n := 1) s2 rfl (by decide) hone
    have hb1 : (n + 1) * 48 ≤ 140737488355328 := by omega
    have hm1 : n + 1 ≤ maxLen := by unfold maxLen; omega
    have s3 : St W (wq.alloc (.cells #[.int .i64 p.f, .int .i64 p.t, .slice p.a p.n p.c, .bool p.sp] 76)).drew (OwnS 4 al n c (pcells N.ps) :: _) := St.pick 2 s2
    clear h1 h2 h4 s s0 hd
    go_region_law (first
      | (refine step_append_st rfl (.tmp 23) (.tmp 25) rfl Try.elem61 rfl rfl s3 r2 hb1 hm1 ?_; rintro a4 c4 w4 s4; have hc4 := (net5 (St.pick 2 s4)).2.2.1; have hf4 : w4.frozen? ⟨b, 2, none⟩ = false := by { have := (St.pick 2 s4).rowFree (i := 2) (by simp [netCells]); rwa [Nat.zero_add] at this }))
    all_goals
      go_wp2
      have s5 := net_setL (al' := a4) (n' := n + 1) (c' := c4) (St.pick 2 s4)
      have s6 := (St.pick 4 (St.pick 2 s5).drop).drop
      have s7 := (bytes_snoc (s6.perm [3, 3])).perm [1, 1, 1]
      exact HK.out _ (NetA.close (N := { N with ps := N.ps ++ [p] }) (by rw [pcells_snoc]; exact s7))
  · simp only [hlt, if_false, decide_false] at HK
    have hf4 := s.rowFree (i := 4) (by simp [netCells])
    rw [Nat.zero_add] at hf4
    go_enter Try.func25, Try.ntmps25
    go_wp2_with fail
    go_quiet (fail)
    go_wp2_with (go_at_call 37; refine add_c h4 hf4 (by omega) (by omega) ?_; intro v)
    have s5 := NetA.close (N := { N with dropped := N.dropped + 1 }) (net_setD (s.drewN nq) (N.dropped + 1))
    exact HK.out _ ((St.pick 1 (St.pick 1 s5).drop).drop)

theorem send_c {W w : World} {R : List HP} {post : Ending → World → Prop} {b : Nat} {N : NetV} {x y : Int} {ao : Option Addr} {n c : Nat} {bs : List Int} (st : St W w (NetA b N :: R)) (rds : Rds W R 1 ao n c (bvs bs)) (hn : n ≤ 4096)
    (hr : N.room ≤ 4096) (hd : 0 ≤ N.dropped ∧ N.dropped ≤ 4611686018427387904)
    (K : ∀ w' a' c', (linkB N.nodes x y = true → St W w' (NetA b (putN N ⟨x, y, a', n, c', bs, false⟩) :: R)) → (linkB N.nodes x y = false → St W w' (NetA b N :: R)) →
      post (.returned (.bool (linkB N.nodes x y && decide ((N.ps.length : Int) < N.room)))) w') :
    Calls Try.prog 8 #[.pointer (some ⟨b, 0, none⟩), .int .i64 x, .int .i64 y, .slice ao n c] w post := by
  have HK := hid K; clear K
  by_cases hl : linkB N.nodes x y = true
  · rw [hl, Bool.true_and] at HK
    have HL := hid hl; clear hl
    go_enter Try.func8, Try.ntmps8
    go_wp2_with (first
      | (go_at_call 24; refine between_c st ?_; rintro w1 s1; rw [HL.out])
      | (go_at_call 26; have s2 := (s1.alloc #[.int .i64 (min x y), .int .i64 (max x y)] 70).drop; refine cloneB_c s2 (rds _ s2.drop) (by omega) ?_; rintro a3 c3 w3 s3)
      | (go_at_call 25; refine put_c (p := ⟨x, y, a3, n, c3, bs, false⟩) (St.pick 1 s3) hr hd ?_; rintro w4 s4))
    exact HK.out _ a3 c3 (fun _ => s4) (fun h => by cases h)
  · have hf : linkB N.nodes x y = false := by simpa using hl
    rw [hf, Bool.false_and] at HK
    have HL := hid hf; clear hl hf
    go_enter Try.func8, Try.ntmps8
    go_wp2_with (first
      | (go_at_call 24; refine between_c st ?_; rintro w1 s1; rw [HL.out]))
    exact HK.out _ ao 0 (fun h => by cases h) (fun _ => (s1.alloc _ _).drop)

end Go.Proofs.Ytnibgchgcggfbab
