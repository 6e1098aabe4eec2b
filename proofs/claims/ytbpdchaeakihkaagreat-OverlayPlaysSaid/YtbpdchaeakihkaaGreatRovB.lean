/- RovB: several texts, joined. The document's overlay: pass, forward. -/
import Derived.Test.YtbpdchaeakihkaaGreatRovA
import Derived.Test.YtbpdchaeakihkaaGreatRefs
namespace Go.Proofs.YtbpdchaeakihkaaGreat
open Go.RowKit Go.Qd
attribute [local go_sem ↓] execOp_bM1
attribute [local go_sem] run_bM1

theorem execOp_bM3 (ρ : Operand → Value) (dst : Option Tmp) (a c : Operand) (ty : TypeId) (pos : String) (after : Array Edge) (guard : Option (Nat × Bool)) :
    execOp ρ { dst, op := .build 75 #[(0, a), (3, c)], type := ty, pos, after, guard } = (do pure (.value (← bldM #[(0, ρ a), (3, ρ c)]))) := by simp [execOp, bldM]
theorem run_bM3 (b : Bool) (w : World) : (bldM #[(0, .int .i64 3), (3, .bool b)]).run Tryz.prog w = .ok (.agg ({ kindM 3 with high := b } : MsgV).cells.toArray) w := by kernel_rfl
attribute [local go_sem ↓] execOp_bM3
attribute [local go_sem] run_bM3

section
variable {W w : World} {R : List HP} {post : Ending → World → Prop} {x : RO} {p : Int} {m : MsgV}

theorem msgC {M : Nat} (s : St W w (row M 0 m.cells :: R)) : w.cell? ⟨M, 0, none⟩ = some (.int .i64 m.kind) ∧ w.cell? ⟨M, 1, none⟩ = some (.int .i64 m.peer) ∧ w.cell? ⟨M, 2, none⟩ = some (.int .i64 m.hops) ∧ w.cell? ⟨M, 3, none⟩ = some (.bool m.high) ∧ w.cell? ⟨M, 4, none⟩ = some (.slice m.pa m.pn m.pc) ∧ w.frozen? ⟨M, 2, none⟩ = false := by
  have c0 := s.rowCell (i := 0) (v := .int .i64 m.kind) rfl
  have c1 := s.rowCell (i := 1) (v := .int .i64 m.peer) rfl
  have c2 := s.rowCell (i := 2) (v := .int .i64 m.hops) rfl
  have c3 := s.rowCell (i := 3) (v := .bool m.high) rfl
  have c4 := s.rowCell (i := 4) (v := .slice m.pa m.pn m.pc) rfl
  have f2 := St.rowFree s (i := 2) (by simp [MsgV.cells])
  simp only [Nat.zero_add] at c0 c1 c2 c3 c4 f2
  exact ⟨c0, c1, c2, c3, c4, f2⟩

set_option maxRecDepth 100000 in
set_option maxHeartbeats 4000000 in
theorem rpassO_c {an : Option Addr} {nn nc : Nat} {nx : List Int} (h : x.ok) (hL : x.o.L.length ≤ 1000) (hho : 0 ≤ m.hops ∧ m.hops ≤ 1000) (hnx : nx ≠ []) (hb : nn ≤ 4096)
    (st : St W w (x.mem W :: RdH W 1 m.pa m.pn m.pc (ivs m.ps) :: OwnS 1 an nn nc (ivs nx) :: R)) (K : ∀ (x' : RO) w', x'.o = passO x.o m nx m.pa m.pn m.pc → St W w' (x'.mem W :: R) → post (.returned (.agg x'.cells.toArray)) w') :
    Calls Tryz.prog 162 #[.agg x.cells.toArray, .agg m.cells.toArray, .slice an nn nc] w post := by
  have HH := hid h
  have HL := hid hL
  have HK := hid K; clear K
  have hw : IntKind.i64.wrap (m.hops - 1) = m.hops - 1 := IntWalk.i64_in _ (by omega)
  have hnn : nn ≤ 4611686018427387904 := Nat.le_trans hb (by decide)
  have HX : Hid (∀ (l : List Int) (a b : Int), (if nx = [] then a else b) = b ∧ (if nx = [] then x.o.D else l) = l) := hid (fun _ _ _ => ⟨if_neg hnx, if_neg hnx⟩)
  clear h hL hho hnx hb
  go_enter Tryz.func162, Tryz.ntmps162
  go_wp2_with (first
    | (refine wpl_boxA (vs := x.cells) rfl (.tmp 0) rfl rfl st ?_; rintro B w1 s1)
    | (refine wpl_boxA (vs := m.cells) rfl (.tmp 1) rfl rfl s1 ?_; rintro M w2 s2)
    | (refine wpl_allocA rfl rfl zeroRO_z s2 ?_; rintro E w3 s3
       have c47 := (roC HH.out (St.pick 2 s3)).2.2.1
       have s4 := RO.memO (St.pick 3 s3))
    | (go_at_call 128; refine refPick_c (l := x.o.D) (zs := nx) s4 (fun w s => OwnS.rd (St.pick 7 s)) hnn ?_; rintro a5 c5 qq s5
       rw [(HX.out (drawL x.o.D nx.length) 0 0).2] at s5 ⊢
       rw [(HX.out [] 0 (pickV x.o.D nx)).1]
       generalize w3.drewN qq = w5 at s5 ⊢
       obtain ⟨n5, hn5⟩ : ∃ n, (drawL x.o.D nx.length).length = n := ⟨_, rfl⟩
       rw [hn5] at s5 ⊢
       clear hn5
       have d47 := (roC HH.out (St.pick 6 s5)).2.2.1
       have f47 := roF HH.out (St.pick 6 s5) 47 (by decide)
       have s6 := roSetD HH.out (St.pick 6 s5) (drawL x.o.D nx.length) a5 n5 c5
       obtain ⟨_, _, e2, _, _, g2⟩ := msgC (St.pick 6 s6)
       have s7 := (St.pick 6 s6).rowSet (i := 2) (by simp [MsgV.cells]) (.int .i64 (m.hops - 1))
       rw [Nat.zero_add] at s7
       have s8 : St W _ (row M 0 ({ m with hops := m.hops - 1 } : MsgV).cells :: row B 0 (x.withD (drawL x.o.D nx.length) a5 n5 c5).cells :: _) := s7
       have s9 := (RO.memC (x := x.withD (drawL x.o.D nx.length) a5 n5 c5) (s8.perm [2, 2, 2, 2])).perm [0, 3]
       clear s7)
    | (refine wpl_loadA (vs := (x.withD (drawL x.o.D nx.length) a5 n5 c5).cells) rfl (.tmp 3) (by rfl) aggRO (by rfl) (RO.len HH.out) (St.rowAll (o := 0) (St.pick 1 s8)) ?_)
    | (refine wpl_loadA (vs := ({ m with hops := m.hops - 1 } : MsgV).cells) rfl (.tmp 4) (by rfl) aggRM2 (by rfl) rfl (St.rowAll (o := 0) s8) ?_)
    | (go_at_call 118; refine rsend_c (x := x.withD (drawL x.o.D nx.length) a5 n5 c5) (m := { m with hops := m.hops - 1 }) HH.out HL.out s9 ?_; rintro y wA hy sA
       have HY := hid hy
       have HYO : Hid y.ok := hid (by rw [RO.ok, hy]; exact HH.out)
       clear hy)
    | (refine wpl_storeA (vs := y.cells) rfl (.tmp 6) (.tmp 27) (by rfl) aggRO (by rfl) (by rfl) (RO.len HYO.out) (RO.one _) (St.pick 3 sA) zeroRO_len ?_; rintro wB sB))
  have hL := run_loadA aggRO (RO.len HYO.out) sB.rowAll
  exact bodyPost_ret (v := .agg y.cells.toArray) (by simp [results, Tryz.results162, asAddr, hL, Act.put]) rfl (HK.out y _ (by rw [HY.out]; rfl) (St.drop (St.pick 1 (St.drop (St.pick 1 (St.drop (St.pick 1 sB.drop)))))))

theorem fwd_is (O : OV) (p : Int) (m : MsgV) : fwdN O p m = othersL O [p, m.peer] := rfl
theorem roCfg {B : Nat} (h : x.ok) (s : St W w (row B 0 x.cells :: R)) {i : Nat} (hi : i < 20) : w.cell? ⟨B, i, none⟩ = some (.int .i64 (x.o.cfg.getD i 0)) := cfg_at ((RO.parts h).1 s) (by have := h.1; omega)
theorem kindRb (b : Bool) (s : St W w R) : St W w (RdH W 1 ({ kindM 3 with high := b } : MsgV).pa ({ kindM 3 with high := b } : MsgV).pn ({ kindM 3 with high := b } : MsgV).pc (ivs ({ kindM 3 with high := b } : MsgV).ps) :: R) := RdH.own (OwnS.none0 (sz := 1) s)
attribute [local go_sem ↓] execOp_ldRO execOp_stRO execOp_ldRM2

set_option maxRecDepth 100000 in
set_option maxHeartbeats 8000000 in
theorem rforwardO_c (h : OOK x.o) (hL : x.o.L.length ≤ 900 ∧ x.o.C.length ≤ 900) (hho : 0 ≤ m.hops ∧ m.hops ≤ 1000) (hp : 0 ≤ m.peer ∧ m.peer < 12)
    (st : St W w (x.mem W :: RdH W 1 m.pa m.pn m.pc (ivs m.ps) :: R)) (K : ∀ (x' : RO) w', x'.o = forwardO x.o p m m.pa m.pc → St W w' (x'.mem W :: R) → post (.returned (.agg x'.cells.toArray)) w') :
    Calls Tryz.prog 124 #[.agg x.cells.toArray, .int .i64 p, .agg m.cells.toArray] w post := by
  have HO := hid h
  have HH := hid h.ro
  have HL := hid hL
  have HHO := hid hho
  obtain ⟨k, hkp⟩ := Int.eq_ofNat_of_zero_le hp.1
  have HKP := hid hkp
  have hk : k < 12 := by omega
  have hkz : (0 : Int) ≤ (k : Int) := by omega
  have HA : Hid ((othersL x.o [p, m.peer]).length ≤ 4096) := hid (Nat.le_trans (List.length_filter_le _ _) (by have := h.v.na4; omega))
  clear h hL hho hp hkp
  unfold forwardO at K
  obtain ⟨hs, es⟩ : ∃ b, (m.peer == x.o.V.self) = b := ⟨_, rfl⟩
  obtain ⟨hz, ez⟩ : ∃ b, (m.hops == 0) = b := ⟨_, rfl⟩
  obtain ⟨ac, ea⟩ : ∃ b, memB x.o.V.a (k : Int) = b := ⟨_, rfl⟩
  obtain ⟨c8, e8⟩ : ∃ c8, x.o.cfg.getD 8 0 = c8 := ⟨_, rfl⟩
  have HC8 := hid e8
  rw [e8] at K
  clear e8
  obtain ⟨dr, ed⟩ : ∃ b, (m.hops == c8) = b := ⟨_, rfl⟩
  have HAC := hid ea
  rw [show memB x.o.V.a m.peer = ac from by rw [HKP.out, HAC.out]] at K
  clear ea
  cases hs with
  | true =>
    rw [if_pos (by simpa using es)] at K
    have HK := hid K; clear K
    clear ez ed
    go_enter Tryz.func124, Tryz.ntmps124
    go_wp2_with (first
      | (refine wpl_boxA (vs := x.cells) rfl (.tmp 0) rfl rfl st ?_; rintro B w1 s1)
      | (refine wpl_boxA (vs := m.cells) rfl (.tmp 2) rfl rfl s1 ?_; rintro M w2 s2)
      | (refine wpl_allocA rfl rfl zeroRO_z s2 ?_; rintro E w3 s3
         obtain ⟨_, e1, e2, _, _, _⟩ := msgC (St.pick 1 s3)
         have c20 := (roC HH.out (St.pick 2 s3)).2.1
         have lx := roLd HH.out (St.pick 2 s3)
         have rS := run_storeG aggRO (b := E) (o := 0) (s3.roomG zeroRO_len) (RO.oneG HH.out)
         have s9 := s3.setAll (vs := x.cells) (by rw [RO.len HH.out, zeroRO_len]))
      | (go_at_call 123; refine rothers_c (q := m.peer) HO.out s3 ?_; rintro an nn nc w5 s5
         have hnn := ivs_len (OwnS.rd s5)
         obtain ⟨_, b1, b2, _, _, _⟩ := msgC (St.pick 2 s5)
         rw [HKP.out] at b1
         have lm := run_loadG (o := 0) aggRM2 rfl (St.pick 2 s5).rowAll
         have b20 := (roC HH.out (St.pick 3 s5)).2.1
         have b8 := roCfg HH.out (St.pick 3 s5) (i := 8) (by decide)
         rw [HC8.out] at b8
         have ly := roLd HH.out (St.pick 3 s5)
         have ba := roAct' HH.out (St.pick 3 s5) hk
         rw [HAC.out] at ba)
      | fail)
    have hL := run_loadA aggRO (RO.len HH.out) s9.rowAll
    exact bodyPost_ret (v := .agg x.cells.toArray) (by simp [results, Tryz.results124, asAddr, hL]) rfl (HK.out x _ rfl (St.drop (St.pick 1 (s9.dropN 3))))
  | false =>
    rw [if_neg (by simpa using es)] at K
    by_cases hn : fwdN x.o p m = []
    · rw [if_pos (.inr hn)] at K
      rw [fwd_is] at hn
      have HNX := hid hn
      clear hn ed
      cases hz with
      | true =>
        cases ac with
        | true =>
          rw [if_pos rfl] at K
          have HK := hid K; clear K
          go_enter Tryz.func124, Tryz.ntmps124
          go_wp2_with (first
            | (refine wpl_boxA (vs := x.cells) rfl (.tmp 0) rfl rfl st ?_; rintro B w1 s1)
            | (refine wpl_boxA (vs := m.cells) rfl (.tmp 2) rfl rfl s1 ?_; rintro M w2 s2)
            | (refine wpl_allocA rfl rfl zeroRO_z s2 ?_; rintro E w3 s3
               obtain ⟨_, e1, e2, _, _, _⟩ := msgC (St.pick 1 s3)
               have c20 := (roC HH.out (St.pick 2 s3)).2.1
               have lx := roLd HH.out (St.pick 2 s3))
            | (go_at_call 123; refine rothers_c (q := m.peer) HO.out s3 ?_; rintro an nn nc w5 s5
               have hnn := ivs_len (OwnS.rd s5)
               obtain ⟨_, b1, b2, _, _, _⟩ := msgC (St.pick 2 s5)
               rw [HKP.out] at b1
               have lm := run_loadG (o := 0) aggRM2 rfl (St.pick 2 s5).rowAll
               have b20 := (roC HH.out (St.pick 3 s5)).2.1
               have b8 := roCfg HH.out (St.pick 3 s5) (i := 8) (by decide)
               rw [HC8.out] at b8
               have ly := roLd HH.out (St.pick 3 s5)
               have ba := roAct' HH.out (St.pick 3 s5) hk
               rw [HAC.out] at ba
               obtain rfl : nn = 0 := by rw [HNX.out] at hnn; exact hnn.symm
               have rS := run_storeG aggRO (b := E) (o := 0) ((St.pick 1 s5).roomG zeroRO_len) (RO.oneG HH.out)
               have s9 := (St.pick 1 s5).setAll (vs := x.cells) (by rw [RO.len HH.out, zeroRO_len]))
            | fail)
          have hL := run_loadA aggRO (RO.len HH.out) s9.rowAll
          exact bodyPost_ret (v := .agg x.cells.toArray) (by simp [results, Tryz.results124, asAddr, hL]) rfl (HK.out x _ rfl (St.drop (St.pick 1 ((St.pick 1 (s9.drop)).dropN 3))))
        | false =>
          rw [if_neg Bool.noConfusion] at K
          have HK := hid K; clear K
          go_enter Tryz.func124, Tryz.ntmps124
          go_wp2_with (first
            | (refine wpl_boxA (vs := x.cells) rfl (.tmp 0) rfl rfl st ?_; rintro B w1 s1)
            | (refine wpl_boxA (vs := m.cells) rfl (.tmp 2) rfl rfl s1 ?_; rintro M w2 s2)
            | (refine wpl_allocA rfl rfl zeroRO_z s2 ?_; rintro E w3 s3
               obtain ⟨_, e1, e2, _, _, _⟩ := msgC (St.pick 1 s3)
               have c20 := (roC HH.out (St.pick 2 s3)).2.1
               have lx := roLd HH.out (St.pick 2 s3))
            | (go_at_call 123; refine rothers_c (q := m.peer) HO.out s3 ?_; rintro an nn nc w5 s5
               have hnn := ivs_len (OwnS.rd s5)
               obtain ⟨_, b1, b2, _, _, _⟩ := msgC (St.pick 2 s5)
               rw [HKP.out] at b1
               have lm := run_loadG (o := 0) aggRM2 rfl (St.pick 2 s5).rowAll
               have b20 := (roC HH.out (St.pick 3 s5)).2.1
               have b8 := roCfg HH.out (St.pick 3 s5) (i := 8) (by decide)
               rw [HC8.out] at b8
               have ly := roLd HH.out (St.pick 3 s5)
               have ba := roAct' HH.out (St.pick 3 s5) hk
               rw [HAC.out] at ba
               obtain rfl : nn = 0 := by rw [HNX.out] at hnn; exact hnn.symm)
            | fail)
          have u := s5.drew
          have lz := roLd HH.out (St.pick 3 u)
          obtain ⟨_, v1, _, _, _, _⟩ := msgC (St.pick 2 u)
          rw [HKP.out] at v1
          go_region_law (first
            | (go_simp; go_at_call 119; refine rraiseO_c (p := (k : Int)) HO.out HL.out.1 HL.out.2 (St.pick 4 u) ?_; rintro y w6 hy s6
               have HY := hid hy
               have HYO : Hid (OOK y.o) := hid (by rw [hy]; exact HO.out.raise _)
               have HYL : Hid (y.o.L.length ≤ 1000) := hid (by rw [hy]; have := raiseO_len x.o (k : Int); have := HL.out.1; omega)
               obtain ⟨_, v2, _, _, _, _⟩ := msgC (St.pick 3 s6)
               rw [HKP.out] at v2
               clear hy)
            | (go_simp; go_at_call 118; refine rsend_c (x := y) (m := { kindM 3 with high := true }) HYO.out.ro HYL.out (St.pick 1 (kindRb true s6)) ?_; rintro z w7 hz s7
               have HZ := hid hz
               have HZO : Hid z.ok := hid (by rw [RO.ok, hz]; exact HYO.out.ro)
               have rS := run_storeG aggRO (b := E) (o := 0) ((St.pick 2 s7).roomG zeroRO_len) (RO.oneG HZO.out)
               have s9 := (St.pick 2 s7).setAll (vs := z.cells) (by rw [RO.len HZO.out, zeroRO_len])
               clear hz))
          all_goals
            go_wp2_with fail
            have hL := run_loadA aggRO (RO.len HZO.out) s9.rowAll
            exact bodyPost_ret (v := .agg z.cells.toArray) (by simp [results, Tryz.results124, asAddr, hL]) rfl (HK.out z _ (by rw [HZ.out, HY.out, HKP.out]; rfl) (St.drop (St.pick 1 (St.drop (St.pick 1 (St.drop (St.pick 1 (St.drop (St.pick 1 s9.drop)))))))))
      | false =>
        cases ac with
        | true =>
          rw [if_pos rfl] at K
          have HK := hid K; clear K
          go_enter Tryz.func124, Tryz.ntmps124
          go_wp2_with (first
            | (refine wpl_boxA (vs := x.cells) rfl (.tmp 0) rfl rfl st ?_; rintro B w1 s1)
            | (refine wpl_boxA (vs := m.cells) rfl (.tmp 2) rfl rfl s1 ?_; rintro M w2 s2)
            | (refine wpl_allocA rfl rfl zeroRO_z s2 ?_; rintro E w3 s3
               obtain ⟨_, e1, e2, _, _, _⟩ := msgC (St.pick 1 s3)
               have c20 := (roC HH.out (St.pick 2 s3)).2.1
               have lx := roLd HH.out (St.pick 2 s3))
            | (go_at_call 123; refine rothers_c (q := m.peer) HO.out s3 ?_; rintro an nn nc w5 s5
               have hnn := ivs_len (OwnS.rd s5)
               obtain ⟨_, b1, b2, _, _, _⟩ := msgC (St.pick 2 s5)
               rw [HKP.out] at b1
               have lm := run_loadG (o := 0) aggRM2 rfl (St.pick 2 s5).rowAll
               have b20 := (roC HH.out (St.pick 3 s5)).2.1
               have b8 := roCfg HH.out (St.pick 3 s5) (i := 8) (by decide)
               rw [HC8.out] at b8
               have ly := roLd HH.out (St.pick 3 s5)
               have ba := roAct' HH.out (St.pick 3 s5) hk
               rw [HAC.out] at ba
               obtain rfl : nn = 0 := by rw [HNX.out] at hnn; exact hnn.symm
               have rS := run_storeG aggRO (b := E) (o := 0) ((St.pick 1 s5).roomG zeroRO_len) (RO.oneG HH.out)
               have s9 := (St.pick 1 s5).setAll (vs := x.cells) (by rw [RO.len HH.out, zeroRO_len]))
            | fail)
          have hL := run_loadA aggRO (RO.len HH.out) s9.rowAll
          exact bodyPost_ret (v := .agg x.cells.toArray) (by simp [results, Tryz.results124, asAddr, hL]) rfl (HK.out x _ rfl (St.drop (St.pick 1 ((St.pick 1 (s9.drop)).dropN 3))))
        | false =>
          rw [if_neg Bool.noConfusion] at K
          have HK := hid K; clear K
          go_enter Tryz.func124, Tryz.ntmps124
          go_wp2_with (first
            | (refine wpl_boxA (vs := x.cells) rfl (.tmp 0) rfl rfl st ?_; rintro B w1 s1)
            | (refine wpl_boxA (vs := m.cells) rfl (.tmp 2) rfl rfl s1 ?_; rintro M w2 s2)
            | (refine wpl_allocA rfl rfl zeroRO_z s2 ?_; rintro E w3 s3
               obtain ⟨_, e1, e2, _, _, _⟩ := msgC (St.pick 1 s3)
               have c20 := (roC HH.out (St.pick 2 s3)).2.1
               have lx := roLd HH.out (St.pick 2 s3))
            | (go_at_call 123; refine rothers_c (q := m.peer) HO.out s3 ?_; rintro an nn nc w5 s5
               have hnn := ivs_len (OwnS.rd s5)
               obtain ⟨_, b1, b2, _, _, _⟩ := msgC (St.pick 2 s5)
               rw [HKP.out] at b1
               have lm := run_loadG (o := 0) aggRM2 rfl (St.pick 2 s5).rowAll
               have b20 := (roC HH.out (St.pick 3 s5)).2.1
               have b8 := roCfg HH.out (St.pick 3 s5) (i := 8) (by decide)
               rw [HC8.out] at b8
               have ly := roLd HH.out (St.pick 3 s5)
               have ba := roAct' HH.out (St.pick 3 s5) hk
               rw [HAC.out] at ba
               obtain rfl : nn = 0 := by rw [HNX.out] at hnn; exact hnn.symm)
            | fail)
          have u := s5.drew
          have lz := roLd HH.out (St.pick 3 u)
          obtain ⟨_, v1, _, _, _, _⟩ := msgC (St.pick 2 u)
          rw [HKP.out] at v1
          go_region_law (first
            | (go_simp; go_at_call 119; refine rraiseO_c (p := (k : Int)) HO.out HL.out.1 HL.out.2 (St.pick 4 u) ?_; rintro y w6 hy s6
               have HY := hid hy
               have HYO : Hid (OOK y.o) := hid (by rw [hy]; exact HO.out.raise _)
               have HYL : Hid (y.o.L.length ≤ 1000) := hid (by rw [hy]; have := raiseO_len x.o (k : Int); have := HL.out.1; omega)
               obtain ⟨_, v2, _, _, _, _⟩ := msgC (St.pick 3 s6)
               rw [HKP.out] at v2
               clear hy)
            | (go_simp; go_at_call 118; refine rsend_c (x := y) (m := { kindM 3 with high := true }) HYO.out.ro HYL.out (St.pick 1 (kindRb true s6)) ?_; rintro z w7 hz s7
               have HZ := hid hz
               have HZO : Hid z.ok := hid (by rw [RO.ok, hz]; exact HYO.out.ro)
               have rS := run_storeG aggRO (b := E) (o := 0) ((St.pick 2 s7).roomG zeroRO_len) (RO.oneG HZO.out)
               have s9 := (St.pick 2 s7).setAll (vs := z.cells) (by rw [RO.len HZO.out, zeroRO_len])
               clear hz))
          all_goals
            go_wp2_with fail
            have hL := run_loadA aggRO (RO.len HZO.out) s9.rowAll
            exact bodyPost_ret (v := .agg z.cells.toArray) (by simp [results, Tryz.results124, asAddr, hL]) rfl (HK.out z _ (by rw [HZ.out, HY.out, HKP.out]; rfl) (St.drop (St.pick 1 (St.drop (St.pick 1 (St.drop (St.pick 1 (St.drop (St.pick 1 s9.drop)))))))))
    · by_cases h0 : m.hops = 0
      · rw [if_pos (.inl h0)] at K
        have hz1 : hz = true := by rw [← ez]; simpa using h0
        subst hz1
        clear h0 hn ed
        cases ac with
        | true =>
          rw [if_pos rfl] at K
          have HK := hid K; clear K
          go_enter Tryz.func124, Tryz.ntmps124
          go_wp2_with (first
            | (refine wpl_boxA (vs := x.cells) rfl (.tmp 0) rfl rfl st ?_; rintro B w1 s1)
            | (refine wpl_boxA (vs := m.cells) rfl (.tmp 2) rfl rfl s1 ?_; rintro M w2 s2)
            | (refine wpl_allocA rfl rfl zeroRO_z s2 ?_; rintro E w3 s3
               obtain ⟨_, e1, e2, _, _, _⟩ := msgC (St.pick 1 s3)
               have c20 := (roC HH.out (St.pick 2 s3)).2.1
               have lx := roLd HH.out (St.pick 2 s3))
            | (go_at_call 123; refine rothers_c (q := m.peer) HO.out s3 ?_; rintro an nn nc w5 s5
               have hnn := ivs_len (OwnS.rd s5)
               obtain ⟨_, b1, b2, _, _, _⟩ := msgC (St.pick 2 s5)
               rw [HKP.out] at b1
               have lm := run_loadG (o := 0) aggRM2 rfl (St.pick 2 s5).rowAll
               have b20 := (roC HH.out (St.pick 3 s5)).2.1
               have b8 := roCfg HH.out (St.pick 3 s5) (i := 8) (by decide)
               rw [HC8.out] at b8
               have ly := roLd HH.out (St.pick 3 s5)
               have ba := roAct' HH.out (St.pick 3 s5) hk
               rw [HAC.out] at ba
               have rS := run_storeG aggRO (b := E) (o := 0) ((St.pick 1 s5).roomG zeroRO_len) (RO.oneG HH.out)
               have s9 := (St.pick 1 s5).setAll (vs := x.cells) (by rw [RO.len HH.out, zeroRO_len]))
            | fail)
          have hL := run_loadA aggRO (RO.len HH.out) s9.rowAll
          exact bodyPost_ret (v := .agg x.cells.toArray) (by simp [results, Tryz.results124, asAddr, hL]) rfl (HK.out x _ rfl (St.drop (St.pick 1 ((St.pick 1 (s9.drop)).dropN 3))))
        | false =>
          rw [if_neg Bool.noConfusion] at K
          have HK := hid K; clear K
          go_enter Tryz.func124, Tryz.ntmps124
          go_wp2_with (first
            | (refine wpl_boxA (vs := x.cells) rfl (.tmp 0) rfl rfl st ?_; rintro B w1 s1)
            | (refine wpl_boxA (vs := m.cells) rfl (.tmp 2) rfl rfl s1 ?_; rintro M w2 s2)
            | (refine wpl_allocA rfl rfl zeroRO_z s2 ?_; rintro E w3 s3
               obtain ⟨_, e1, e2, _, _, _⟩ := msgC (St.pick 1 s3)
               have c20 := (roC HH.out (St.pick 2 s3)).2.1
               have lx := roLd HH.out (St.pick 2 s3))
            | (go_at_call 123; refine rothers_c (q := m.peer) HO.out s3 ?_; rintro an nn nc w5 s5
               have hnn := ivs_len (OwnS.rd s5)
               obtain ⟨_, b1, b2, _, _, _⟩ := msgC (St.pick 2 s5)
               rw [HKP.out] at b1
               have lm := run_loadG (o := 0) aggRM2 rfl (St.pick 2 s5).rowAll
               have b20 := (roC HH.out (St.pick 3 s5)).2.1
               have b8 := roCfg HH.out (St.pick 3 s5) (i := 8) (by decide)
               rw [HC8.out] at b8
               have ly := roLd HH.out (St.pick 3 s5)
               have ba := roAct' HH.out (St.pick 3 s5) hk
               rw [HAC.out] at ba)
            | fail)
          have u := s5.drew
          have lz := roLd HH.out (St.pick 3 u)
          obtain ⟨_, v1, _, _, _, _⟩ := msgC (St.pick 2 u)
          rw [HKP.out] at v1
          go_region_law (first
            | (go_simp; go_at_call 119; refine rraiseO_c (p := (k : Int)) HO.out HL.out.1 HL.out.2 (St.pick 4 u) ?_; rintro y w6 hy s6
               have HY := hid hy
               have HYO : Hid (OOK y.o) := hid (by rw [hy]; exact HO.out.raise _)
               have HYL : Hid (y.o.L.length ≤ 1000) := hid (by rw [hy]; have := raiseO_len x.o (k : Int); have := HL.out.1; omega)
               obtain ⟨_, v2, _, _, _, _⟩ := msgC (St.pick 3 s6)
               rw [HKP.out] at v2
               clear hy)
            | (go_simp; go_at_call 118; refine rsend_c (x := y) (m := { kindM 3 with high := true }) HYO.out.ro HYL.out (St.pick 1 (kindRb true s6)) ?_; rintro z w7 hz s7
               have HZ := hid hz
               have HZO : Hid z.ok := hid (by rw [RO.ok, hz]; exact HYO.out.ro)
               have rS := run_storeG aggRO (b := E) (o := 0) ((St.pick 2 s7).roomG zeroRO_len) (RO.oneG HZO.out)
               have s9 := (St.pick 2 s7).setAll (vs := z.cells) (by rw [RO.len HZO.out, zeroRO_len])
               clear hz))
          all_goals
            go_wp2_with fail
            have hL := run_loadA aggRO (RO.len HZO.out) s9.rowAll
            exact bodyPost_ret (v := .agg z.cells.toArray) (by simp [results, Tryz.results124, asAddr, hL]) rfl (HK.out z _ (by rw [HZ.out, HY.out, HKP.out]; rfl) (St.drop (St.pick 1 (St.drop (St.pick 1 (St.drop (St.pick 1 (St.drop (St.pick 1 s9.drop)))))))))
      · rw [if_neg (fun g => g.elim h0 hn)] at K
        have hz1 : hz = false := by rw [← ez]; simpa using h0
        subst hz1
        rw [fwd_is] at hn K
        have HNX := hid hn
        clear h0 hn
        cases dr with
        | true =>
          rw [if_pos (by simpa using ed)] at K
          have HK := hid K; clear K
          go_enter Tryz.func124, Tryz.ntmps124
          go_wp2_with (first
            | (refine wpl_boxA (vs := x.cells) rfl (.tmp 0) rfl rfl st ?_; rintro B w1 s1)
            | (refine wpl_boxA (vs := m.cells) rfl (.tmp 2) rfl rfl s1 ?_; rintro M w2 s2)
            | (refine wpl_allocA rfl rfl zeroRO_z s2 ?_; rintro E w3 s3
               obtain ⟨_, e1, e2, _, _, _⟩ := msgC (St.pick 1 s3)
               have c20 := (roC HH.out (St.pick 2 s3)).2.1
               have lx := roLd HH.out (St.pick 2 s3))
            | (go_at_call 123; refine rothers_c (q := m.peer) HO.out s3 ?_; rintro an nn nc w5 s5
               have hnn := ivs_len (OwnS.rd s5)
               obtain ⟨_, b1, b2, _, _, _⟩ := msgC (St.pick 2 s5)
               rw [HKP.out] at b1
               have lm := run_loadG (o := 0) aggRM2 rfl (St.pick 2 s5).rowAll
               have b20 := (roC HH.out (St.pick 3 s5)).2.1
               have b8 := roCfg HH.out (St.pick 3 s5) (i := 8) (by decide)
               rw [HC8.out] at b8
               have ly := roLd HH.out (St.pick 3 s5)
               have ba := roAct' HH.out (St.pick 3 s5) hk
               rw [HAC.out] at ba
               have hn0 : ((nn : Int) == 0) = false := by simp; intro g; subst g; exact HNX.out (List.eq_nil_of_length_eq_zero hnn)
               have hnb : nn ≤ 4096 := by rw [← hnn]; exact HA.out)
            | (go_at_call 121; refine rlearnO_c (x := x) (p := (k : Int)) HO.out (St.pick 4 s5) ?_; rintro y w6 hy s6
               have HY := hid hy
               have HYO : Hid (OOK y.o) := hid (by rw [hy]; exact HO.out.learn _)
               have HYL : Hid (y.o.L.length ≤ 1000) := hid (by rw [hy]; exact Nat.le_trans HL.out.1 (by decide))
               clear hy)
            | (refine wpl_storeA (vs := y.cells) rfl (.tmp 3) (.tmp 52) (by rfl) aggRO (by rfl) (by rfl) (RO.len HYO.out.ro) (RO.one _) (St.pick 4 s6) (RO.len HH.out) ?_; rintro w7 s7
               have s8 := s7.perm [1, 4, 1]
               have ly := roLd HYO.out.ro s7
               have lm := run_loadG (o := 0) aggRM2 rfl (St.pick 4 s7).rowAll)
            | (go_at_call 162; refine rpassO_c (x := y) HYO.out.ro HYL.out HHO.out HNX.out hnb s8 ?_; rintro z wA hz sA
               have HZ := hid hz
               have HZO : Hid z.ok := hid (by rw [RO.ok, hz]; exact HYO.out.ro)
               clear hz)
            | (refine wpl_storeA (vs := z.cells) rfl (.tmp 6) (.tmp 56) (by rfl) aggRO (by rfl) (by rfl) (RO.len HZO.out) (RO.one _) (St.pick 2 sA) zeroRO_len ?_; rintro w9 s9)
            | fail)
          have hL := run_loadA aggRO (RO.len HZO.out) s9.rowAll
          exact bodyPost_ret (v := .agg z.cells.toArray) (by simp [results, Tryz.results124, asAddr, hL, Act.put]) rfl (HK.out z _ (by rw [HZ.out, HY.out, HKP.out]) (St.drop (St.pick 1 (St.drop (St.pick 1 s9.drop)))))
        | false =>
          rw [if_neg (by simpa using ed)] at K
          have HK := hid K; clear K
          go_enter Tryz.func124, Tryz.ntmps124
          go_wp2_with (first
            | (refine wpl_boxA (vs := x.cells) rfl (.tmp 0) rfl rfl st ?_; rintro B w1 s1)
            | (refine wpl_boxA (vs := m.cells) rfl (.tmp 2) rfl rfl s1 ?_; rintro M w2 s2)
            | (refine wpl_allocA rfl rfl zeroRO_z s2 ?_; rintro E w3 s3
               obtain ⟨_, e1, e2, _, _, _⟩ := msgC (St.pick 1 s3)
               have c20 := (roC HH.out (St.pick 2 s3)).2.1
               have lx := roLd HH.out (St.pick 2 s3))
            | (go_at_call 123; refine rothers_c (q := m.peer) HO.out s3 ?_; rintro an nn nc w5 s5
               have hnn := ivs_len (OwnS.rd s5)
               obtain ⟨_, b1, b2, _, _, _⟩ := msgC (St.pick 2 s5)
               rw [HKP.out] at b1
               have lm := run_loadG (o := 0) aggRM2 rfl (St.pick 2 s5).rowAll
               have b20 := (roC HH.out (St.pick 3 s5)).2.1
               have b8 := roCfg HH.out (St.pick 3 s5) (i := 8) (by decide)
               rw [HC8.out] at b8
               have ly := roLd HH.out (St.pick 3 s5)
               have ba := roAct' HH.out (St.pick 3 s5) hk
               rw [HAC.out] at ba
               have hn0 : ((nn : Int) == 0) = false := by simp; intro g; subst g; exact HNX.out (List.eq_nil_of_length_eq_zero hnn)
               have hnb : nn ≤ 4096 := by rw [← hnn]; exact HA.out
               have s8 := s5.perm [4, 4, 0])
            | (go_at_call 162; refine rpassO_c (x := x) HH.out (Nat.le_trans HL.out.1 (by decide)) HHO.out HNX.out hnb s8 ?_; rintro z wA hz sA
               have HZ := hid hz
               have HZO : Hid z.ok := hid (by rw [RO.ok, hz]; exact HH.out)
               clear hz)
            | (refine wpl_storeA (vs := z.cells) rfl (.tmp 6) (.tmp 56) (by rfl) aggRO (by rfl) (by rfl) (RO.len HZO.out) (RO.one _) (St.pick 1 sA) zeroRO_len ?_; rintro w9 s9)
            | fail)
          have hL := run_loadA aggRO (RO.len HZO.out) s9.rowAll
          exact bodyPost_ret (v := .agg z.cells.toArray) (by simp [results, Tryz.results124, asAddr, hL, Act.put]) rfl (HK.out z _ HZ.out (St.drop (St.pick 1 (St.drop (St.pick 1 s9.drop)))))
end

end Go.Proofs.YtbpdchaeakihkaaGreat

/- The document's overlay: shuffle. -/
namespace Go.Proofs.YtbpdchaeakihkaaGreat
open Go.RowKit Go.Qd
attribute [local go_sem ↓] execOp_bM1
attribute [local go_sem] run_bM1

theorem execOp_bM84 (ρ : Operand → Value) (dst : Option Tmp) (a c : Operand) (ty : TypeId) (pos : String) (after : Array Edge) (guard : Option (Nat × Bool)) :
    execOp ρ { dst, op := .build 75 #[(0, a), (4, c)], type := ty, pos, after, guard } = (do pure (.value (← bldM #[(0, ρ a), (4, ρ c)]))) := by simp [execOp, bldM]
theorem run_bM84 (a : Option Addr) (n c : Nat) (w : World) : (bldM #[(0, .int .i64 8), (4, .slice a n c)]).run Tryz.prog w = .ok (.agg (swapM a n c []).cells.toArray) w := by kernel_rfl
attribute [local go_sem ↓] execOp_bM84
attribute [local go_sem] run_bM84
theorem names_is (O : OV) (q : Int) : namesL O q = dropL O.V.p q := by
  unfold namesL dropL
  refine List.filter_congr fun x _ => ?_
  rfl

section
variable {W w : World} {R : List HP} {post : Ending → World → Prop} {x : RO} {p : Int} {m : MsgV}

theorem zero83' (w : World) : (zeroValue 83).run Tryz.prog w = .ok (.agg (bits []).toArray) w := by kernel_rfl
theorem bits_cell {B k : Nat} {l : List Int} (s : St W w (row B 0 (bits l) :: R)) (h : k < 12) : w.cell? ⟨B, k, none⟩ = some (.bool (memB l (k : Int))) ∧ w.frozen? ⟨B, k, none⟩ = false := by
  have c := s.rowCell (bits_get (l := l) h)
  have f := St.rowFree s (i := k) (by rw [bits_len]; exact h)
  rw [Nat.zero_add] at c f
  exact ⟨c, f⟩
attribute [local go_sem ↓] execOp_ldRO execOp_stRO execOp_ldRM2

set_option maxRecDepth 100000 in
set_option maxHeartbeats 16000000 in
theorem rshuffleO_c (h : OOK x.o) (hL : x.o.L.length ≤ 900 ∧ x.o.C.length ≤ 900) (hho : 0 ≤ m.hops ∧ m.hops ≤ 1000) (hp : 0 ≤ m.peer ∧ m.peer < 12) (hb8 : m.pn ≤ 8)
    (st : St W w (x.mem W :: RdH W 1 m.pa m.pn m.pc (ivs m.ps) :: R)) (K : ∀ (x' : RO) pa pn pc w', x'.o = shuffleO x.o p m pa pn pc → St W w' (x'.mem W :: R) → post (.returned (.agg x'.cells.toArray)) w') :
    Calls Tryz.prog 126 #[.agg x.cells.toArray, .int .i64 p, .agg m.cells.toArray] w post := by
  have HO := hid h
  have HH := hid h.ro
  have HL := hid hL
  have HHO := hid hho
  obtain ⟨k, hkp⟩ := Int.eq_ofNat_of_zero_le hp.1
  have HKP := hid hkp
  have hk : k < 12 := by omega
  have hkz : (0 : Int) ≤ (k : Int) := by omega
  have hkt : (k : Int) < 12 := by omega
  have HB8 := hid hb8
  have HPL : Hid (m.ps.length = m.pn) := hid (ivs_len (RdH.rd (St.pick 1 st)))
  have HA : Hid ((othersL x.o [p, m.peer]).length ≤ 4096) := hid (Nat.le_trans (List.length_filter_le _ _) (by have := h.v.na4; omega))
  have HQ : Hid ((dropL x.o.V.p (k : Int)).Pairwise (· < ·) ∧ (∀ z ∈ dropL x.o.V.p (k : Int), nodeB z = true)) := hid ⟨dropL_sorted h.v.sp (k : Int), fun z hz => (h.v.np z (mem_dropL.1 hz).1).1⟩
  clear h hL hho hp hkp hb8
  unfold shuffleO at K
  obtain ⟨hs, es⟩ : ∃ b, (m.peer == x.o.V.self) = b := ⟨_, rfl⟩
  obtain ⟨hz, ez⟩ : ∃ b, decide (0 < m.hops) = b := ⟨_, rfl⟩
  cases hs with
  | true =>
    have he : m.peer = x.o.V.self := by simpa using es
    simp only [if_pos he] at K
    clear he
    have HK := hid K; clear K
    clear ez
    go_enter Tryz.func126, Tryz.ntmps126
    go_wp2_with (first
      | (refine wpl_boxA (vs := x.cells) rfl (.tmp 0) rfl rfl st ?_; rintro B w1 s1)
      | (refine wpl_boxA (vs := m.cells) rfl (.tmp 2) rfl rfl s1 ?_; rintro M w2 s2)
      | (refine wpl_allocA rfl rfl zeroRO_z s2 ?_; rintro E w3 s3
         obtain ⟨_, e1, e2, _, _, _⟩ := msgC (St.pick 1 s3)
         have c20 := (roC HH.out (St.pick 2 s3)).2.1
         have lx := roLd HH.out (St.pick 2 s3)
         have rS := run_storeG aggRO (b := E) (o := 0) (s3.roomG zeroRO_len) (RO.oneG HH.out)
         have s9 := s3.setAll (vs := x.cells) (by rw [RO.len HH.out, zeroRO_len]))
      | (go_at_call 123; refine rothers_c (q := m.peer) HO.out s3 ?_; rintro an nn nc w5 s5
         have hnn := ivs_len (OwnS.rd s5)
         obtain ⟨_, b1, b2, _, b4, _⟩ := msgC (St.pick 2 s5)
         rw [HKP.out] at b1
         have lm := run_loadG (o := 0) aggRM2 rfl (St.pick 2 s5).rowAll
         have ly := roLd HH.out (St.pick 3 s5))
      | fail)
    have hL := run_loadA aggRO (RO.len HH.out) s9.rowAll
    exact bodyPost_ret (v := .agg x.cells.toArray) (by simp [results, Tryz.results126, asAddr, hL]) rfl (HK.out x none 0 0 _ rfl (St.drop (St.pick 1 (s9.dropN 3))))
  | false =>
    have he : ¬ m.peer = x.o.V.self := by simpa using es
    simp only [if_neg he] at K
    clear he
    by_cases hn : 0 < m.hops ∧ fwdN x.o p m ≠ []
    · simp only [if_pos hn] at K
      have HK := hid K; clear K
      have hz1 : hz = true := by rw [← ez]; exact decide_eq_true hn.1
      subst hz1
      have HNX := hid hn.2
      rw [fwd_is] at HNX
      clear hn
      go_enter Tryz.func126, Tryz.ntmps126
      go_wp2_with (first
        | (refine wpl_boxA (vs := x.cells) rfl (.tmp 0) rfl rfl st ?_; rintro B w1 s1)
        | (refine wpl_boxA (vs := m.cells) rfl (.tmp 2) rfl rfl s1 ?_; rintro M w2 s2)
        | (refine wpl_allocA rfl rfl zeroRO_z s2 ?_; rintro E w3 s3
           obtain ⟨_, e1, e2, _, _, _⟩ := msgC (St.pick 1 s3)
           have c20 := (roC HH.out (St.pick 2 s3)).2.1
           have lx := roLd HH.out (St.pick 2 s3))
        | (go_at_call 123; refine rothers_c (q := m.peer) HO.out s3 ?_; rintro an nn nc w5 s5
           have hnn := ivs_len (OwnS.rd s5)
           obtain ⟨_, b1, b2, _, b4, _⟩ := msgC (St.pick 2 s5)
           rw [HKP.out] at b1
           have lm := run_loadG (o := 0) aggRM2 rfl (St.pick 2 s5).rowAll
           have ly := roLd HH.out (St.pick 3 s5)
           have hn0 : decide (0 < nn) = true := decide_eq_true (Nat.pos_of_ne_zero (by intro g; subst g; exact HNX.out (List.eq_nil_of_length_eq_zero hnn)))
           have hn1 : decide ((0 : Int) < (nn : Int)) = true := by have := of_decide_eq_true hn0; exact decide_eq_true (by omega)
           have hnb : nn ≤ 4096 := by rw [← hnn]; exact HA.out
           have s8 := s5.perm [4, 4, 0])
        | (go_at_call 162; refine rpassO_c (x := x) HH.out (Nat.le_trans HL.out.1 (by decide)) HHO.out HNX.out hnb s8 ?_; rintro z wA hz sA
           have HZ := hid hz
           have HZO : Hid z.ok := hid (by rw [RO.ok, hz]; exact HH.out)
           clear hz)
        | (refine wpl_storeA (vs := z.cells) rfl (.tmp 6) (.tmp 35) (by rfl) aggRO (by rfl) (by rfl) (RO.len HZO.out) (RO.one _) (St.pick 1 sA) zeroRO_len ?_; rintro w9 s9)
        | fail)
      have hL := run_loadA aggRO (RO.len HZO.out) s9.rowAll
      exact bodyPost_ret (v := .agg z.cells.toArray) (by simp [results, Tryz.results126, asAddr, hL, Act.put]) rfl (HK.out z m.pa 0 m.pc _ HZ.out (St.drop (St.pick 1 (St.drop (St.pick 1 s9.drop)))))
    · simp only [if_neg hn] at K
      have HK := hid K; clear K
      cases hz with
      | true =>
        have HNX : Hid (othersL x.o [p, m.peer] = []) := hid (Classical.byContradiction fun g => hn ⟨of_decide_eq_true ez, g⟩)
        clear hn
        go_enter Tryz.func126, Tryz.ntmps126
        go_wp2_with (first
          | (refine wpl_boxA (vs := x.cells) rfl (.tmp 0) rfl rfl st ?_; rintro B w1 s1)
          | (refine wpl_boxA (vs := m.cells) rfl (.tmp 2) rfl rfl s1 ?_; rintro M w2 s2)
          | (refine wpl_allocA rfl rfl zeroRO_z s2 ?_; rintro E w3 s3
             obtain ⟨_, e1, e2, _, _, _⟩ := msgC (St.pick 1 s3)
             have c20 := (roC HH.out (St.pick 2 s3)).2.1
             have lx := roLd HH.out (St.pick 2 s3))
          | (go_at_call 123; refine rothers_c (q := m.peer) HO.out s3 ?_; rintro an nn nc w5 s5
             have hnn := ivs_len (OwnS.rd s5)
             obtain ⟨_, b1, b2, _, b4, _⟩ := msgC (St.pick 2 s5)
             rw [HKP.out] at b1
             have lm := run_loadG (o := 0) aggRM2 rfl (St.pick 2 s5).rowAll
             have ly := roLd HH.out (St.pick 3 s5)
             obtain rfl : nn = 0 := by rw [HNX.out] at hnn; exact hnn.symm)
          | (refine wpl_loadA (vs := bits x.o.V.p) rfl (.tmp 37) (by rfl) aggB12 (by rfl) (bits_len _) (roBitsP HH.out (St.pick 3 s5)) ?_)
          | (refine wpl_allocA rfl rfl zero83' s5 ?_; rintro N w6 s6)
          | (refine wpl_storeA (vs := bits x.o.V.p) rfl (.tmp 8) (.tmp 38) (by rfl) aggB12 (by rfl) (by rfl) (bits_len _) (bits_one _) s6 (bits_len _) ?_; rintro w7 s7
             obtain ⟨_, d1, _, _, _, _⟩ := msgC (St.pick 3 s7)
             rw [HKP.out] at d1
             obtain ⟨n0, n1⟩ := bits_cell s7 hk
             have s8 := s7.rowSet (i := k) (by rw [bits_len]; exact hk) (.bool false)
             rw [Nat.zero_add, bits_drop] at s8
             have sM := RO.memO (St.pick 5 s8))
          | fail)
        clear s1 s2 s3 s5 s7 s8
        obtain ⟨Q, hQ⟩ : ∃ Q, dropL x.o.V.p (k : Int) = Q := ⟨_, rfl⟩
        have HQE := hid hQ
        rw [hQ] at HQ sM
        clear hQ
        obtain ⟨nq, hnq⟩ : ∃ nq, Q.length = nq := ⟨_, rfl⟩
        have HNQ := hid hnq
        have hnqb : nq ≤ 4096 := by
          rw [← hnq, ← HQE.out]
          exact Nat.le_trans (List.length_filter_le _ _) (by have := HO.out.v.np4; omega)
        clear hnq
        have u := sM.drew
        have hu := Tryz.underlying83
        have hi12 : (Tryz.prog.info? 83).map (·.size) = some (bits Q).length := by rw [bits_len]; exact aggB12.size
        have hl12 := bits_len Q
        have gA := And.intro (roC HH.out (St.pick 8 u)).2.2.1 (And.intro (show _ = _ from (msgC (St.pick 7 u)).2.2.2.2.1) (show World.rangeAt _ N 0 (bits Q) from fun _ _ h => (St.pick 4 u).rowCell h))
        go_region_held3 (fun w' => w'.cell? ⟨B, 47, none⟩ = some (.slice x.da x.dn x.dc) ∧ w'.cell? ⟨M, 4, none⟩ = some (.slice m.pa m.pn m.pc) ∧ w'.rangeAt N 0 (bits Q))
          (first
            | with_reducible exact gC
            | with_reducible exact gB
            | with_reducible exact gA)
          (first
            | (go_at_call 29; refine list_c u HQ.out.1 HQ.out.2 ?_; rw [HNQ.out]; rintro al cl w9 s9
               have gB := And.intro (roC HH.out (St.pick 9 s9)).2.2.1 (And.intro (show _ = _ from (msgC (St.pick 8 s9)).2.2.2.2.1) (show World.rangeAt _ N 0 (bits Q) from fun _ _ h => (St.pick 5 s9).rowCell h)))
            | (go_at_call 129; refine refSome_c (k := (m.pn : Int)) (St.pick 1 (RdH.own s9)) (by omega) ?_; rw [Int.toNat_natCast]; rintro a1 c1 a2 c2 wA sA
               obtain ⟨SD, hSD⟩ : ∃ SD, (someF m.pn x.o.D Q).1 = SD := ⟨_, rfl⟩
               obtain ⟨SP, hSP⟩ : ∃ SP, (someF m.pn x.o.D Q).2.1 = SP := ⟨_, rfl⟩
               rw [hSD, hSP] at sA ⊢
               have HSD := hid hSD; have HSP := hid hSP
               obtain ⟨n1', hn1'⟩ : ∃ n, SD.length = n := ⟨_, rfl⟩
               obtain ⟨n2', hn2'⟩ : ∃ n, SP.length = n := ⟨_, rfl⟩
               rw [hn1', hn2'] at sA ⊢
               clear hSD hSP hn1' hn2'
               have gC := And.intro (roC HH.out (St.pick 9 sA)).2.2.1 (And.intro (show _ = _ from (msgC (St.pick 8 sA)).2.2.2.2.1) (show World.rangeAt _ N 0 (bits Q) from fun _ _ h => (St.pick 5 sA).rowCell h))))
        have f47 := roF HH.out (St.pick 9 sA) 47 (by decide)
        have d47 := gC.1
        have sB := roSetD HH.out (St.pick 9 sA) SD a1 n1' c1
        have lz := roLd (x := x.withD SD a1 n1' c1) HH.out sB
        obtain ⟨_, m1, _, _, m4, _⟩ := msgC (St.pick 9 sB)
        rw [HKP.out] at m1
        have sC : St W _ ((x.withD SD a1 n1' c1).mem W :: OwnS 1 a2 n2' c2 (ivs SP) :: row B 0 (x.withD SD a1 n1' c1).cells :: row E 0 zeroRO.cells :: row M 0 m.cells :: RdH W 1 m.pa m.pn m.pc (ivs m.ps) :: R) := RO.memC (x := x.withD SD a1 n1' c1) (St.drop (St.pick 6 (St.drop (St.pick 7 (sB.perm [1, 2, 2, 2, 1, 0])))))
        have e84 : (swapM a2 n2' c2 []).cells = (swapM a2 n2' c2 SP).cells := rfl
        have E84 := hid e84
        clear e84 gA gB gC sA s9 u sM b1 b2 b4 c20 e1 e2 lx ly lm n0 n1 d1 sB m4
        go_wp2_with (first
          | (go_at_call 118; rw [E84.out]; refine rsend_c (x := x.withD SD a1 n1' c1) (p := (k : Int)) (m := swapM a2 n2' c2 SP) HH.out (Nat.le_trans HL.out.1 (by decide)) (St.pick 1 (RdH.own (St.pick 1 sC))) ?_; rintro y1 wD hy1 sD
             have HY1 := hid hy1
             have HO1 : Hid (OOK y1.o) := hid (by rw [hy1]; exact ⟨HO.out.v, HO.out.cl, HO.out.hl, HO.out.r⟩)
             clear hy1)
          | (refine wpl_storeA (vs := y1.cells) rfl (.tmp 3) (.tmp 60) (by rfl) aggRO (by rfl) (by rfl) (RO.len HO1.out.ro) (RO.one _) (St.pick 1 sD) (RO.len (x := x.withD SD a1 n1' c1) HH.out) ?_; rintro wE sE
             have l1 := roLd HO1.out.ro sE
             obtain ⟨_, m1', _, _, _, _⟩ := msgC (St.pick 3 sE)
             rw [HKP.out] at m1')
          | (go_at_call 121; refine rlearnO_c (x := y1) (p := (k : Int)) HO1.out (St.pick 1 sE) ?_; rintro y2 wF hy2 sF
             have HY2 := hid hy2
             have HO2 : Hid (OOK y2.o) := hid (by rw [hy2]; exact HO1.out.learn _)
             clear hy2)
          | (refine wpl_storeA (vs := y2.cells) rfl (.tmp 3) (.tmp 64) (by rfl) aggRO (by rfl) (by rfl) (RO.len HO2.out.ro) (RO.one _) (St.pick 1 sF) (RO.len HO1.out.ro) ?_; rintro wG sG))
        clear sC sD sE sF l1 m1 m1' lz
        obtain ⟨pn, hpn⟩ : ∃ pn, m.pn = pn := ⟨_, rfl⟩
        have HPN := hid hpn
        have hpn8 : pn ≤ 8 := by rw [← hpn]; exact HB8.out
        clear hpn
        go_loopw [11] (fun ii wr => ∃ (i : Nat) (z : RO), i ≤ pn ∧ ii = .int .i64 i ∧ Hid (z.o = learnAllO y2.o (m.ps.take i)) ∧ St W wr (row B 0 z.cells :: z.mem W :: row E 0 zeroRO.cells :: row M 0 m.cells :: RdH W 1 m.pa m.pn m.pc (ivs m.ps) :: R)) (fun ii _ => pn - (intOf ii).toNat)
        case atStart => exact ⟨0, y2, Nat.zero_le _, rfl, hid rfl, sG⟩
        case round =>
          clear sG
          obtain ⟨i, z, hi, rfl, HZ, sr⟩ := hrel
          have HZO : Hid (OOK z.o) := hid (by rw [HZ.out]; exact HO2.out.learnAll _)
          by_cases hlt : i < pn
          · have hi2 : (i : Int) < (pn : Int) := by omega
            have rd := RdH.rd (St.pick 4 sr)
            obtain ⟨g3, o3, hg⟩ := rd.addr (by rw [HPN.out]; omega)
            have hiA : i < m.ps.length := by rw [HPL.out, HPN.out]; exact hlt
            rw [hg] at rd
            have ci := (show RdS _ _ _ _ _ _ from rd).at (ivs_get hiA)
            have ci2 : wr.drew.cell? ⟨g3, o3 + i, none⟩ = some (iv m.ps[i]) := by
              have := RdH.rd (St.pick 4 sr.drew)
              rw [hg] at this
              exact this.at (ivs_get hiA)
            have hsn := learnAll_snoc y2.o hiA
            obtain ⟨t, ht⟩ : ∃ t, m.ps[i] = t := ⟨_, rfl⟩
            rw [ht] at ci ci2 hsn
            rw [← HZ.out] at hsn
            have HSN := hid hsn
            obtain ⟨_, _, _, _, m4, _⟩ := msgC (St.pick 3 sr)
            obtain ⟨_, _, _, _, k4, _⟩ := msgC (St.pick 3 sr.drew)
            rw [hg, HPN.out] at m4 k4
            have lz := roLd HZO.out.ro sr.drew
            have u := sr.drew
            clear ht rd hiA hsn hg
            go_wp2_with fail
            go_region_law (go_simp; go_at_call 121; refine rlearnO_c (x := z) (p := t) HZO.out (St.pick 1 u) ?_; rintro v w7 hv s7; have HV := hid hv; have HVO : Hid (OOK v.o) := hid (by rw [hv]; exact HZO.out.learn t); have rS := run_storeG aggRO (b := B) (o := 0) ((St.pick 1 s7).roomG (RO.len HZO.out.ro)) (RO.oneG HVO.out.ro); have s8 := (St.pick 1 s7).setAll (vs := v.cells) (by rw [RO.len HVO.out.ro, RO.len HZO.out.ro]); clear hv)
            all_goals
              go_wp2_with fail
              go_roundw
              case rel => exact ⟨i + 1, v, by omega, by go_num, hid (by rw [HSN.out]; exact HV.out), s8⟩
              case measure => simp [intOf]; omega
          · have hie : pn = i := by omega
            subst hie
            rw [List.take_of_length_le (by rw [HPL.out, HPN.out]; exact Nat.le_refl _)] at HZ
            have lz := roLd HZO.out.ro sr
            obtain ⟨_, _, _, _, m4, _⟩ := msgC (St.pick 3 sr)
            rw [HPN.out] at m4
            have rS := run_storeG aggRO (b := E) (o := 0) ((St.pick 2 sr).roomG zeroRO_len) (RO.oneG HZO.out.ro)
            have s8 := (St.pick 2 sr).setAll (vs := z.cells) (by rw [RO.len HZO.out.ro, zeroRO_len])
            go_wp2_with fail
            have hL := run_loadA aggRO (RO.len HZO.out.ro) s8.rowAll
            exact bodyPost_ret (v := .agg z.cells.toArray) (by simp [results, Tryz.results126, asAddr, hL]) rfl (HK.out z a2 n2' c2 _ (by rw [HZ.out, HY2.out, HY1.out]; unfold swapO; rw [names_is, HKP.out, HQE.out, HSD.out, HSP.out]; rfl) (St.drop (St.pick 1 (St.drop (St.pick 1 (s8.dropN 2))))))
      | false =>
        clear hn
        go_enter Tryz.func126, Tryz.ntmps126
        go_wp2_with (first
          | (refine wpl_boxA (vs := x.cells) rfl (.tmp 0) rfl rfl st ?_; rintro B w1 s1)
          | (refine wpl_boxA (vs := m.cells) rfl (.tmp 2) rfl rfl s1 ?_; rintro M w2 s2)
          | (refine wpl_allocA rfl rfl zeroRO_z s2 ?_; rintro E w3 s3
             obtain ⟨_, e1, e2, _, _, _⟩ := msgC (St.pick 1 s3)
             have c20 := (roC HH.out (St.pick 2 s3)).2.1
             have lx := roLd HH.out (St.pick 2 s3))
          | (go_at_call 123; refine rothers_c (q := m.peer) HO.out s3 ?_; rintro an nn nc w5 s5
             have hnn := ivs_len (OwnS.rd s5)
             obtain ⟨_, b1, b2, _, b4, _⟩ := msgC (St.pick 2 s5)
             rw [HKP.out] at b1
             have lm := run_loadG (o := 0) aggRM2 rfl (St.pick 2 s5).rowAll
             have ly := roLd HH.out (St.pick 3 s5))
          | (refine wpl_loadA (vs := bits x.o.V.p) rfl (.tmp 37) (by rfl) aggB12 (by rfl) (bits_len _) (roBitsP HH.out (St.pick 3 s5)) ?_)
          | (refine wpl_allocA rfl rfl zero83' s5 ?_; rintro N w6 s6)
          | (refine wpl_storeA (vs := bits x.o.V.p) rfl (.tmp 8) (.tmp 38) (by rfl) aggB12 (by rfl) (by rfl) (bits_len _) (bits_one _) s6 (bits_len _) ?_; rintro w7 s7
             obtain ⟨_, d1, _, _, _, _⟩ := msgC (St.pick 3 s7)
             rw [HKP.out] at d1
             obtain ⟨n0, n1⟩ := bits_cell s7 hk
             have s8 := s7.rowSet (i := k) (by rw [bits_len]; exact hk) (.bool false)
             rw [Nat.zero_add, bits_drop] at s8
             have sM := RO.memO (St.pick 5 s8))
          | fail)
        clear s1 s2 s3 s5 s7 s8
        obtain ⟨Q, hQ⟩ : ∃ Q, dropL x.o.V.p (k : Int) = Q := ⟨_, rfl⟩
        have HQE := hid hQ
        rw [hQ] at HQ sM
        clear hQ
        obtain ⟨nq, hnq⟩ : ∃ nq, Q.length = nq := ⟨_, rfl⟩
        have HNQ := hid hnq
        have hnqb : nq ≤ 4096 := by
          rw [← hnq, ← HQE.out]
          exact Nat.le_trans (List.length_filter_le _ _) (by have := HO.out.v.np4; omega)
        clear hnq
        have u := sM.drew
        have hu := Tryz.underlying83
        have hi12 : (Tryz.prog.info? 83).map (·.size) = some (bits Q).length := by rw [bits_len]; exact aggB12.size
        have hl12 := bits_len Q
        have gA := And.intro (roC HH.out (St.pick 8 u)).2.2.1 (And.intro (show _ = _ from (msgC (St.pick 7 u)).2.2.2.2.1) (show World.rangeAt _ N 0 (bits Q) from fun _ _ h => (St.pick 4 u).rowCell h))
        go_region_held3 (fun w' => w'.cell? ⟨B, 47, none⟩ = some (.slice x.da x.dn x.dc) ∧ w'.cell? ⟨M, 4, none⟩ = some (.slice m.pa m.pn m.pc) ∧ w'.rangeAt N 0 (bits Q))
          (first
            | with_reducible exact gC
            | with_reducible exact gB
            | with_reducible exact gA)
          (first
            | (go_at_call 29; refine list_c u HQ.out.1 HQ.out.2 ?_; rw [HNQ.out]; rintro al cl w9 s9
               have gB := And.intro (roC HH.out (St.pick 9 s9)).2.2.1 (And.intro (show _ = _ from (msgC (St.pick 8 s9)).2.2.2.2.1) (show World.rangeAt _ N 0 (bits Q) from fun _ _ h => (St.pick 5 s9).rowCell h)))
            | (go_at_call 129; refine refSome_c (k := (m.pn : Int)) (St.pick 1 (RdH.own s9)) (by omega) ?_; rw [Int.toNat_natCast]; rintro a1 c1 a2 c2 wA sA
               obtain ⟨SD, hSD⟩ : ∃ SD, (someF m.pn x.o.D Q).1 = SD := ⟨_, rfl⟩
               obtain ⟨SP, hSP⟩ : ∃ SP, (someF m.pn x.o.D Q).2.1 = SP := ⟨_, rfl⟩
               rw [hSD, hSP] at sA ⊢
               have HSD := hid hSD; have HSP := hid hSP
               obtain ⟨n1', hn1'⟩ : ∃ n, SD.length = n := ⟨_, rfl⟩
               obtain ⟨n2', hn2'⟩ : ∃ n, SP.length = n := ⟨_, rfl⟩
               rw [hn1', hn2'] at sA ⊢
               clear hSD hSP hn1' hn2'
               have gC := And.intro (roC HH.out (St.pick 9 sA)).2.2.1 (And.intro (show _ = _ from (msgC (St.pick 8 sA)).2.2.2.2.1) (show World.rangeAt _ N 0 (bits Q) from fun _ _ h => (St.pick 5 sA).rowCell h))))
        have f47 := roF HH.out (St.pick 9 sA) 47 (by decide)
        have d47 := gC.1
        have sB := roSetD HH.out (St.pick 9 sA) SD a1 n1' c1
        have lz := roLd (x := x.withD SD a1 n1' c1) HH.out sB
        obtain ⟨_, m1, _, _, m4, _⟩ := msgC (St.pick 9 sB)
        rw [HKP.out] at m1
        have sC : St W _ ((x.withD SD a1 n1' c1).mem W :: OwnS 1 a2 n2' c2 (ivs SP) :: row B 0 (x.withD SD a1 n1' c1).cells :: row E 0 zeroRO.cells :: row M 0 m.cells :: RdH W 1 m.pa m.pn m.pc (ivs m.ps) :: R) := RO.memC (x := x.withD SD a1 n1' c1) (St.drop (St.pick 6 (St.drop (St.pick 7 (sB.perm [1, 2, 2, 2, 1, 0])))))
        have e84 : (swapM a2 n2' c2 []).cells = (swapM a2 n2' c2 SP).cells := rfl
        have E84 := hid e84
        clear e84 gA gB gC sA s9 u sM b1 b2 b4 c20 e1 e2 lx ly lm n0 n1 d1 sB m4
        go_wp2_with (first
          | (go_at_call 118; rw [E84.out]; refine rsend_c (x := x.withD SD a1 n1' c1) (p := (k : Int)) (m := swapM a2 n2' c2 SP) HH.out (Nat.le_trans HL.out.1 (by decide)) (St.pick 1 (RdH.own (St.pick 1 sC))) ?_; rintro y1 wD hy1 sD
             have HY1 := hid hy1
             have HO1 : Hid (OOK y1.o) := hid (by rw [hy1]; exact ⟨HO.out.v, HO.out.cl, HO.out.hl, HO.out.r⟩)
             clear hy1)
          | (refine wpl_storeA (vs := y1.cells) rfl (.tmp 3) (.tmp 60) (by rfl) aggRO (by rfl) (by rfl) (RO.len HO1.out.ro) (RO.one _) (St.pick 1 sD) (RO.len (x := x.withD SD a1 n1' c1) HH.out) ?_; rintro wE sE
             have l1 := roLd HO1.out.ro sE
             obtain ⟨_, m1', _, _, _, _⟩ := msgC (St.pick 3 sE)
             rw [HKP.out] at m1')
          | (go_at_call 121; refine rlearnO_c (x := y1) (p := (k : Int)) HO1.out (St.pick 1 sE) ?_; rintro y2 wF hy2 sF
             have HY2 := hid hy2
             have HO2 : Hid (OOK y2.o) := hid (by rw [hy2]; exact HO1.out.learn _)
             clear hy2)
          | (refine wpl_storeA (vs := y2.cells) rfl (.tmp 3) (.tmp 64) (by rfl) aggRO (by rfl) (by rfl) (RO.len HO2.out.ro) (RO.one _) (St.pick 1 sF) (RO.len HO1.out.ro) ?_; rintro wG sG))
        clear sC sD sE sF l1 m1 m1' lz
        obtain ⟨pn, hpn⟩ : ∃ pn, m.pn = pn := ⟨_, rfl⟩
        have HPN := hid hpn
        have hpn8 : pn ≤ 8 := by rw [← hpn]; exact HB8.out
        clear hpn
        go_loopw [11] (fun ii wr => ∃ (i : Nat) (z : RO), i ≤ pn ∧ ii = .int .i64 i ∧ Hid (z.o = learnAllO y2.o (m.ps.take i)) ∧ St W wr (row B 0 z.cells :: z.mem W :: row E 0 zeroRO.cells :: row M 0 m.cells :: RdH W 1 m.pa m.pn m.pc (ivs m.ps) :: R)) (fun ii _ => pn - (intOf ii).toNat)
        case atStart => exact ⟨0, y2, Nat.zero_le _, rfl, hid rfl, sG⟩
        case round =>
          clear sG
          obtain ⟨i, z, hi, rfl, HZ, sr⟩ := hrel
          have HZO : Hid (OOK z.o) := hid (by rw [HZ.out]; exact HO2.out.learnAll _)
          by_cases hlt : i < pn
          · have hi2 : (i : Int) < (pn : Int) := by omega
            have rd := RdH.rd (St.pick 4 sr)
            obtain ⟨g3, o3, hg⟩ := rd.addr (by rw [HPN.out]; omega)
            have hiA : i < m.ps.length := by rw [HPL.out, HPN.out]; exact hlt
            rw [hg] at rd
            have ci := (show RdS _ _ _ _ _ _ from rd).at (ivs_get hiA)
            have ci2 : wr.drew.cell? ⟨g3, o3 + i, none⟩ = some (iv m.ps[i]) := by
              have := RdH.rd (St.pick 4 sr.drew)
              rw [hg] at this
              exact this.at (ivs_get hiA)
            have hsn := learnAll_snoc y2.o hiA
            obtain ⟨t, ht⟩ : ∃ t, m.ps[i] = t := ⟨_, rfl⟩
            rw [ht] at ci ci2 hsn
            rw [← HZ.out] at hsn
            have HSN := hid hsn
            obtain ⟨_, _, _, _, m4, _⟩ := msgC (St.pick 3 sr)
            obtain ⟨_, _, _, _, k4, _⟩ := msgC (St.pick 3 sr.drew)
            rw [hg, HPN.out] at m4 k4
            have lz := roLd HZO.out.ro sr.drew
            have u := sr.drew
            clear ht rd hiA hsn hg
            go_wp2_with fail
            go_region_law (go_simp; go_at_call 121; refine rlearnO_c (x := z) (p := t) HZO.out (St.pick 1 u) ?_; rintro v w7 hv s7; have HV := hid hv; have HVO : Hid (OOK v.o) := hid (by rw [hv]; exact HZO.out.learn t); have rS := run_storeG aggRO (b := B) (o := 0) ((St.pick 1 s7).roomG (RO.len HZO.out.ro)) (RO.oneG HVO.out.ro); have s8 := (St.pick 1 s7).setAll (vs := v.cells) (by rw [RO.len HVO.out.ro, RO.len HZO.out.ro]); clear hv)
            all_goals
              go_wp2_with fail
              go_roundw
              case rel => exact ⟨i + 1, v, by omega, by go_num, hid (by rw [HSN.out]; exact HV.out), s8⟩
              case measure => simp [intOf]; omega
          · have hie : pn = i := by omega
            subst hie
            rw [List.take_of_length_le (by rw [HPL.out, HPN.out]; exact Nat.le_refl _)] at HZ
            have lz := roLd HZO.out.ro sr
            obtain ⟨_, _, _, _, m4, _⟩ := msgC (St.pick 3 sr)
            rw [HPN.out] at m4
            have rS := run_storeG aggRO (b := E) (o := 0) ((St.pick 2 sr).roomG zeroRO_len) (RO.oneG HZO.out.ro)
            have s8 := (St.pick 2 sr).setAll (vs := z.cells) (by rw [RO.len HZO.out.ro, zeroRO_len])
            go_wp2_with fail
            have hL := run_loadA aggRO (RO.len HZO.out.ro) s8.rowAll
            exact bodyPost_ret (v := .agg z.cells.toArray) (by simp [results, Tryz.results126, asAddr, hL]) rfl (HK.out z a2 n2' c2 _ (by rw [HZ.out, HY2.out, HY1.out]; unfold swapO; rw [names_is, HKP.out, HQE.out, HSD.out, HSP.out]; rfl) (St.drop (St.pick 1 (St.drop (St.pick 1 (s8.dropN 2))))))
end

end Go.Proofs.YtbpdchaeakihkaaGreat

/- The document's overlay: silent. -/
namespace Go.Proofs.YtbpdchaeakihkaaGreat
open Go.RowKit Go.Qd

theorem stepS_heard (O : OV) (p : Int) : (stepS O p).heard = O.heard.set p.toNat (O.heard.getD p.toNat 0 + 1) := by
  unfold stepS
  split
  · unfold lowerO; split <;> rfl
  · rfl
theorem stepS_C (O : OV) (p : Int) : (stepS O p).C.length ≤ O.C.length + 1 := by
  unfold stepS
  split
  · unfold lowerO
    split
    · show (O.C ++ [_]).length ≤ _; rw [List.length_append]; exact Nat.le_refl _
    · exact Nat.le_succ _
  · exact Nat.le_succ _
theorem stepS_ok {O : OV} (h : OOK O) (p : Int) : OOK (stepS O p) := by
  have hc : OOK (countO O p) := ⟨h.v, h.cl, by show (O.heard.set _ _).length = 12; rw [List.length_set]; exact h.hl, h.r⟩
  unfold stepS
  split
  · exact hc.lower p
  · exact hc
structure SilI (O0 O : OV) (i : Nat) : Prop where
  ok : OOK O
  hb : ∀ j : Nat, 0 ≤ O.heard.getD j 0 ∧ O.heard.getD j 0 ≤ 1000000 + i
  c : O.C.length ≤ O0.C.length + i
  g : O.cfg = O0.cfg
theorem SilI.step {O0 O : OV} {i : Nat} (h : SilI O0 O i) (p : Int) : SilI O0 (stepS O p) (i + 1) := by
  refine ⟨stepS_ok h.ok p, fun j => ?_, Nat.le_trans (stepS_C O p) (by have := h.c; omega), ?_⟩
  · rw [stepS_heard]
    rw [getD_set]
    split
    · have := h.hb p.toNat; omega
    · have := h.hb j; omega
  · refine Eq.trans ?_ h.g
    unfold stepS
    split
    · unfold lowerO; split <;> rfl
    · rfl

section
variable {W w : World} {R : List HP} {post : Ending → World → Prop} {x : RO}
attribute [local go_sem ↓] execOp_ldRO execOp_stRO

set_option maxRecDepth 100000 in
set_option maxHeartbeats 16000000 in
theorem rsilent_c (h : OOK x.o) (hh : ∀ j : Nat, 0 ≤ x.o.heard.getD j 0 ∧ x.o.heard.getD j 0 ≤ 1000000) (hC : x.o.C.length ≤ 100) (st : St W w (x.mem W :: R))
    (K : ∀ (x' : RO) w', x'.o = silentO x.o x.o.V.a → St W w' (x'.mem W :: R) → post (.returned (.agg x'.cells.toArray)) w') :
    Calls Tryz.prog 127 #[.agg x.cells.toArray] w post := by
  have HH := hid h.ro
  have HI0 : Hid (SilI x.o x.o 0) := hid ⟨h, fun j => ⟨(hh j).1, by have := (hh j).2; omega⟩, Nat.le_refl _, rfl⟩
  have HC := hid hC
  have HS := hid h.v.sa
  have HN : Hid (∀ z ∈ x.o.V.a, nodeB z = true) := hid (fun z hz => (h.v.na z hz).1)
  have HA : Hid (x.o.V.a.length ≤ 11) := hid (by have := h.v.la; have := h.v.am; omega)
  clear h hh hC
  obtain ⟨A, hA⟩ : ∃ A, x.o.V.a = A := ⟨_, rfl⟩
  have HAE := hid hA
  rw [hA] at HS HN HA K
  clear hA
  have HK := hid K; clear K
  obtain ⟨na, hna⟩ : ∃ na, A.length = na := ⟨_, rfl⟩
  have HNA := hid hna
  have hna11 : na ≤ 11 := by rw [← hna]; exact HA.out
  clear hna
  obtain ⟨c11, e11⟩ : ∃ c, x.o.cfg.getD 11 0 = c := ⟨_, rfl⟩
  have H11 := hid e11
  clear e11
  go_enter Tryz.func127, Tryz.ntmps127
  go_wp2_with (first
    | (refine wpl_boxA (vs := x.cells) rfl (.tmp 0) rfl rfl st ?_; rintro B w1 s1)
    | (refine wpl_allocA rfl rfl zeroRO_z s1 ?_; rintro E w2 s2)
    | (refine wpl_loadA (vs := bits A) rfl (.tmp 6) (by rfl) aggB12 (by rfl) (bits_len _) (by rw [← HAE.out]; exact roBitsA HH.out (St.pick 1 s2)) ?_)
    | (go_at_call 29; refine list_c s2 HS.out HN.out ?_; rw [HNA.out]; rintro al cl w3 s3))
  go_loopw [4] (fun ii wr => ∃ (i : Nat) (z : RO), i ≤ na ∧ ii = .int .i64 i ∧ Hid (z.o = silentO x.o (A.take i) ∧ SilI x.o z.o i) ∧ St W wr (row B 0 z.cells :: z.mem W :: OwnS 1 al na cl (ivs A) :: row E 0 zeroRO.cells :: R)) (fun ii _ => na - (intOf ii).toNat)
  case atStart => exact ⟨0, x, Nat.zero_le _, rfl, hid ⟨rfl, HI0.out⟩, s3.perm [2, 2]⟩
  case round =>
    clear s1 s2 s3
    obtain ⟨i, z, hi, rfl, HZ, sr⟩ := hrel
    by_cases hlt : i < na
    · have hi2 : (i : Int) < (na : Int) := by omega
      have rd := OwnS.rd (St.pick 2 sr.drew)
      obtain ⟨g3, o3, rfl⟩ := rd.addr (by omega)
      have hiA : i < A.length := by rw [HNA.out]; exact hlt
      have ci := rd.at (ivs_get hiA)
      have HCI : Hid (∀ (w : World), RdS w 1 (some ⟨g3, o3, none⟩) na cl (ivs A) → w.cell? ⟨g3, o3 + i, none⟩ = some (iv A[i])) := hid (fun w rd => rd.at (ivs_get hiA))
      have hsn := silent_snoc x.o hiA
      have hnd := nodeB_iff.1 (HN.out _ (List.getElem_mem hiA))
      obtain ⟨t, ht⟩ : ∃ t, A[i] = t := ⟨_, rfl⟩
      simp only [ht] at ci hsn HCI hnd
      obtain ⟨k, rfl⟩ := Int.eq_ofNat_of_zero_le hnd.1
      have hk : k < 12 := by omega
      have hkz : (0 : Int) ≤ (k : Int) := hnd.1
      have hkt : (k : Int) < 12 := by omega
      rw [← HZ.out.1] at hsn
      have HSN := hid hsn
      have hb := HZ.out.2.hb k
      have u := sr.drew
      have h0 := roHeard HZ.out.2.ok.ro u hk
      have f0 := roF HZ.out.2.ok.ro u (49 + k) (by omega)
      obtain ⟨hv, ehv⟩ : ∃ hv, z.o.heard.getD k 0 = hv := ⟨_, rfl⟩
      have HHV := hid ehv
      rw [ehv] at h0 hb
      have hwr : IntKind.i64.wrap (hv + 1) = hv + 1 := IntWalk.i64_in _ (by omega)
      have HZ1 : Hid (OOK (z.withH (z.o.heard.set k (hv + 1))).o) := hid ⟨HZ.out.2.ok.v, HZ.out.2.ok.cl, by show (z.o.heard.set k (hv + 1)).length = 12; rw [List.length_set]; exact HZ.out.2.ok.hl, HZ.out.2.ok.r⟩
      have HCO : Hid ((z.withH (z.o.heard.set k (hv + 1))).o = countO z.o (k : Int)) := hid (by unfold countO; rw [Int.toNat_natCast, HHV.out]; rfl)
      have HGD : Hid ((z.o.heard.set k (hv + 1)).getD k 0 = hv + 1) := hid (by rw [getD_set, if_pos ⟨rfl, by have := HZ.out.2.ok.hl; omega⟩])
      clear ht rd hiA hsn ehv hb hnd
      go_wp2_with fail
      go_cut [26] (fun _ wx => St W wx (row B 0 (z.withH (z.o.heard.set k (hv + 1))).cells :: z.mem W :: OwnS 1 (some ⟨g3, o3, none⟩) na cl (ivs A) :: row E 0 zeroRO.cells :: R))
      case first =>
        go_region_law (fail)
        all_goals
          go_wp2_with fail
          go_meet
          case rel => exact roSetH HZ.out.2.ok.ro u hk (hv + 1)
      case rest =>
        have s4 := hcut
        clear hcut u h0 f0 ci sr
        have u := s4.drew
        have ci := HCI.out _ (OwnS.rd (St.pick 2 u))
        have h1 := roHeard HZ1.out.ro u hk
        rw [show (z.withH (z.o.heard.set k (hv + 1))).o.heard.getD k 0 = hv + 1 from HGD.out] at h1
        have h2 := roCfg HZ1.out.ro u (i := 11) (by decide)
        rw [show (z.withH (z.o.heard.set k (hv + 1))).o.cfg.getD 11 0 = c11 from by rw [← H11.out, ← HZ.out.2.g]; rfl] at h2
        obtain ⟨b, eb⟩ : ∃ b, decide (c11 < hv + 1) = b := ⟨_, rfl⟩
        have HB := hid eb
        have HCN : Hid (decide (z.o.cfg.getD 11 0 < (countO z.o (k : Int)).heard.getD (k : Int).toNat 0) = b) := hid (by
          rw [← HCO.out]
          show decide (z.o.cfg.getD 11 0 < (z.o.heard.set k (hv + 1)).getD (k : Int).toNat 0) = b
          rw [Int.toNat_natCast, HGD.out, HZ.out.2.g, H11.out]; exact HB.out)
        cases b with
        | false =>
          have HE : Hid ((z.withH (z.o.heard.set k (hv + 1))).o = stepS z.o (k : Int)) := hid (by
            rw [HCO.out]; unfold stepS; rw [if_neg (of_decide_eq_false HCN.out)])
          go_wp2_with fail
          go_region_held3 (fun w' => w'.cell? ⟨g3, o3 + i, none⟩ = some (iv (k : Int)) ∧ w'.cell? ⟨B, 49 + k, none⟩ = some (.int .i64 (hv + 1)) ∧ w'.cell? ⟨B, 11, none⟩ = some (.int .i64 c11)) (exact ⟨ci, h1, h2⟩) (fail)
          go_wp2_with fail
          go_roundw
          case rel => exact ⟨i + 1, z.withH (z.o.heard.set k (hv + 1)), by omega, by go_num, hid ⟨by rw [HSN.out]; exact HE.out, by rw [HE.out]; exact HZ.out.2.step _⟩, u⟩
          case measure => simp [intOf]; omega
        | true =>
          go_wp2_with fail
          go_region_held3 (fun w' => w'.cell? ⟨g3, o3 + i, none⟩ = some (iv (k : Int)) ∧ w'.cell? ⟨B, 49 + k, none⟩ = some (.int .i64 (hv + 1)) ∧ w'.cell? ⟨B, 11, none⟩ = some (.int .i64 c11)) (exact ⟨ci, h1, h2⟩) (fail)
          clear ci h1 h2
          have v := u.drew
          have lz := roLd HZ1.out.ro v
          have ci := HCI.out _ (OwnS.rd (St.pick 2 v))
          have HCC : Hid ((z.withH (z.o.heard.set k (hv + 1))).o.C.length ≤ 1000) := hid (by
            have g1 := HZ.out.2.c
            have g2 := HC.out
            show z.o.C.length ≤ 1000
            omega)
          go_wp2_with fail
          go_region_law (go_simp; go_at_call 120; refine rlowerO_c (x := z.withH (z.o.heard.set k (hv + 1))) (p := (k : Int)) HZ1.out HCC.out (St.pick 1 v) ?_; rintro y w7 hy s7; have HY := hid hy; have HYO : Hid (OOK y.o) := hid (by rw [hy]; exact HZ1.out.lower _); have rS := run_storeG aggRO (b := B) (o := 0) ((St.pick 1 s7).roomG (RO.len HZ1.out.ro)) (RO.oneG HYO.out.ro); have s8 := (St.pick 1 s7).setAll (vs := y.cells) (by rw [RO.len HYO.out.ro, RO.len HZ1.out.ro]); clear hy)
          all_goals
            have HE : Hid (y.o = stepS z.o (k : Int)) := hid (by
              rw [HY.out, HCO.out]; unfold stepS; rw [if_pos (of_decide_eq_true HCN.out)])
            go_wp2_with fail
            go_roundw
            case rel => exact ⟨i + 1, y, by omega, by go_num, hid ⟨by rw [HSN.out]; exact HE.out, by rw [HE.out]; exact HZ.out.2.step _⟩, s8⟩
            case measure => simp [intOf]; omega
    · have hie : na = i := by omega
      subst hie
      have HZ2 := HZ.out.1
      rw [List.take_of_length_le (by rw [HNA.out]; exact Nat.le_refl _)] at HZ2
      have HZ3 := hid HZ2
      clear HZ2
      have lz := roLd HZ.out.2.ok.ro sr
      have rS := run_storeG aggRO (b := E) (o := 0) ((St.pick 3 sr).roomG zeroRO_len) (RO.oneG HZ.out.2.ok.ro)
      have s8 := (St.pick 3 sr).setAll (vs := z.cells) (by rw [RO.len HZ.out.2.ok.ro, zeroRO_len])
      go_wp2_with fail
      have hL := run_loadA aggRO (RO.len HZ.out.2.ok.ro) s8.rowAll
      exact bodyPost_ret (v := .agg z.cells.toArray) (by simp [results, Tryz.results127, asAddr, hL]) rfl (HK.out z _ HZ3.out (St.drop (St.pick 1 (s8.dropN 2))))
end

end Go.Proofs.YtbpdchaeakihkaaGreat
