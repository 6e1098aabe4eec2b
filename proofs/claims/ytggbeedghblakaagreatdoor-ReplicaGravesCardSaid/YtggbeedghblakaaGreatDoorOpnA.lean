/- The replica that a disk has: Open, out of what the journal tells and what recover does. -/
import Derived.Test.YtggbeedghblakaaGreatDoorRecL
import Derived.Test.YtggbeedghblakaaGreatDoorNews
import Derived.Deep.RegionLaw
import Derived.Deep.DeepCutAuto
namespace Go.Proofs.YtggbeedghblakaaGreatDoor
open Go.RowKit Go.Qd RepV

theorem optL {W w : World} {R : List HP} {T : Nat} {o : OptV} (s : St W w (row T 0 o.cells :: R)) : w.cell? ⟨T, 0, none⟩ = some (.int .i64 o.nodes) ∧ w.cell? ⟨T, 1, none⟩ = some (.int .i64 o.quota) ∧ w.cell? ⟨T, 4, none⟩ = some (.int .i64 o.t2) := by
  have f : ∀ i v, o.cells[i]? = some v → w.cell? ⟨T, i, none⟩ = some v := fun i v hv => by have := s.rowCell hv; rwa [Nat.zero_add] at this
  exact ⟨f 0 _ rfl, f 1 _ rfl, f 4 _ rfl⟩
theorem agg_opt : AggT Tryz.prog 25 5 := ⟨⟨_, Tryz.underlying25, rfl⟩, by kernel_rfl⟩
theorem opt_one (o : OptV) : ∀ u ∈ o.cells, u.oneCell' = true := by
  intro u hu; simp only [OptV.cells, List.mem_cons, List.not_mem_nil, or_false] at hu
  rcases hu with rfl | rfl | rfl | rfl | rfl <;> rfl

theorem check_ok {o : OptV} (h : o.check = 0) : (1 ≤ o.nodes ∧ o.nodes ≤ 12) ∧ (1 ≤ o.quota ∧ o.quota ≤ 64) ∧ (1 ≤ o.retain ∧ o.retain ≤ o.nodes) ∧ (0 ≤ o.t1 ∧ o.t1 ≤ 2147483647) ∧ (o.t1 ≤ o.t2 ∧ o.t2 ≤ 2147483647) ∧ (o.t1 = 0 → o.t2 = 0) := by
  unfold OptV.check at h
  split at h
  · cases h
  · rename_i h1
    split at h
    · cases h
    · rename_i h2
      split at h
      · cases h
      · rename_i h3
        unfold OptV.okB withinB at h1
        unfold withinB at h3
        simp only [Bool.not_eq_false, Bool.and_eq_true, decide_eq_true_eq, not_and] at h1 h2 h3
        refine ⟨h1.1, h1.2.1, h1.2.2.1, h1.2.2.2, h3, fun h => ?_⟩
        have := h2 h
        omega

theorem RepA.disk {W w : World} {R : List HP} {A : RAd} {r : RepV} (s : St W w (RepA A r :: R)) : St W w (DskH A.d r.d :: R) := (RepA.open.1 s).dropN 8

/-- Records in memory, each owned. -/
def RecsH (a : Option Addr) (n c : Nat) (ls : List (List UInt8)) : HP := fun h => ∃ ps : List PtV, (ps.map (·.bs) = ls) ∧ sepL (OwnS 1 a n c (ps.map PtV.cell) :: ps.map (fun x => OwnS 1 x.a x.n x.c (byC x.bs))) h

/-- The same, where each lies. -/
def RecsP (a : Option Addr) (n c : Nat) (ps : List PtV) : HP := sepL (OwnS 1 a n c (ps.map PtV.cell) :: ps.map (fun x => OwnS 1 x.a x.n x.c (byC x.bs)))
theorem RecsH.open {W w : World} {R : List HP} {a : Option Addr} {n c : Nat} {ls : List (List UInt8)} (s : St W w (RecsH a n c ls :: R)) : ∃ ps : List PtV, ps.map (·.bs) = ls ∧ St W w (RecsP a n c ps :: R) := by
  obtain ⟨ps, s⟩ := St.ex (F := fun (ps : List PtV) h => (ps.map (·.bs) = ls) ∧ sepL (OwnS 1 a n c (ps.map PtV.cell) :: ps.map (fun x => OwnS 1 x.a x.n x.c (byC x.bs))) h) s
  obtain ⟨h1, s⟩ := s.pure
  exact ⟨ps, h1, s⟩
theorem RecsH.close {W w : World} {R : List HP} {a : Option Addr} {n c : Nat} {ps : List PtV} (s : St W w (RecsP a n c ps :: R)) : St W w (RecsH a n c (ps.map (·.bs)) :: R) := s.imp fun _ x => ⟨ps, rfl, x⟩
theorem pickL_get {l : List HP} : ∀ {i : Nat} (h : i < l.length), ∃ r, pickL i l = l[i] :: r := by
  induction l with
  | nil => intro i h; simp at h
  | cons x l ih =>
    intro i h
    cases i with
    | zero => exact ⟨l, rfl⟩
    | succ i =>
      obtain ⟨r, hr⟩ := ih (i := i) (by simpa using h)
      refine ⟨x :: r, ?_⟩
      unfold pickL
      rw [hr]
      simp
theorem recs_rd {W : World} {R : List HP} {a : Option Addr} {n c : Nat} {ps : List PtV} : Rds W (RecsP a n c ps :: R) 1 a n c (ps.map PtV.cell) := fun _ s => OwnS.rd ((St.flat _).1 s)
theorem recs_at {W : World} {R : List HP} {a : Option Addr} {n c : Nat} {ps : List PtV} {x : PtV} (hx : x ∈ ps) : Rds W (RecsP a n c ps :: R) 1 x.a x.n x.c (byC x.bs) := fun _ s => by
  have s1 : St W _ (ps.map (fun x => OwnS 1 x.a x.n x.c (byC x.bs)) ++ R) := ((St.flat _).1 s).drop
  obtain ⟨i, hi, rfl⟩ := List.mem_iff_getElem.1 hx
  have hl : i < (ps.map (fun x => OwnS 1 x.a x.n x.c (byC x.bs)) ++ R).length := by simp; omega
  obtain ⟨r, hr⟩ := pickL_get hl
  have s2 := St.pick i s1
  rw [hr, List.getElem_append_left (by simpa using hi), List.getElem_map] at s2
  exact OwnS.rd s2
theorem recs_none {W w : World} {R : List HP} (s : St W w R) : St W w (RecsH none 0 0 [] :: R) := by
  have s1 : St W w (OwnS 1 none 0 0 [] :: R) := OwnS.none0 s
  exact RecsH.close (ps := []) ((St.flat [OwnS 1 none 0 0 []]).2 s1)

section
attribute [local go_sem ↓] execOp_ldAny
variable {W w : World} {R : List HP} {post : Ending → World → Prop}

/-- The struct that is made first: options, index, journal. -/
def newC (o : OptV) (ix jb : Nat) : List Value := [.int .i64 o.nodes, .int .i64 o.quota, .int .i64 o.retain, .int .i64 o.t1, .int .i64 o.t2, .pointer none, .int .u64 0, .pointer none, .pointer none, ptrV ix, .pointer none, ptrV jb]
def buildR (x y z : Value) : Sem Value := Instr.build 83 #[(0, x), (5, y), (7, z)]
theorem execOp_buildR (ρ : Operand → Value) (dst : Option Tmp) (a c e : Operand) (ty : TypeId) (pos : String) (after : Array Edge) (guard : Option (Nat × Bool)) :
    execOp ρ { dst, op := .build 83 #[(0, a), (5, c), (7, e)], type := ty, pos, after, guard } = (do pure (.value (← buildR (ρ a) (ρ c) (ρ e)))) := by simp [execOp, buildR]
theorem run_buildR (o : OptV) (ix jb : Nat) (w : World) : (buildR (.agg o.cells.toArray) (.pointer (some ⟨ix, 0, none⟩)) (.pointer (some ⟨jb, 0, none⟩))).run Tryz.prog w = .ok (.agg (newC o ix jb).toArray) w := by kernel_rfl

set_option maxRecDepth 100000 in
set_option maxHeartbeats 4000000 in
theorem open_wrong {o : OptV} {site : Int} {dp : Value} (hc : o.check = 14) (st : St W w R) (K : ∀ w', St W w' R → post (.returned (.tuple #[.pointer none, .int .i64 14])) w') :
    Calls Tryz.prog 13 #[.int .i64 site, .agg o.cells.toArray, dp] w post := by
  have HK := hid K; clear K
  have HC := hid hc
  clear hc
  go_enter Tryz.func13, Tryz.ntmps13
  go_wp2_with (first
    | (refine wpl_boxA (vs := o.cells) rfl (.tmp 1) rfl rfl st ?_; rintro T w1 s1; have lT := run_loadG agg_opt (vs := o.cells) rfl s1.rowAll)
    | (go_at_call 42; refine ocheck_c s1 ?_; rintro w2 s2; rw [HC.out]))
  exact HK.out _ s2.drop

set_option maxRecDepth 100000 in
set_option maxHeartbeats 4000000 in
theorem open_site {o : OptV} {site : Int} {dp : Value} (hc : o.check = 0) (hs : ¬ (0 ≤ site ∧ site < o.nodes)) (st : St W w R) (K : ∀ w', St W w' R → post (.returned (.tuple #[.pointer none, .int .i64 1])) w') :
    Calls Tryz.prog 13 #[.int .i64 site, .agg o.cells.toArray, dp] w post := by
  have HK := hid K; clear K
  have HC := hid hc
  clear hc
  by_cases h0 : site < 0
  · have d1 : decide (site < 0) = true := decide_eq_true h0
    clear hs h0
    go_enter Tryz.func13, Tryz.ntmps13
    go_wp2_with (first
      | (refine wpl_boxA (vs := o.cells) rfl (.tmp 1) rfl rfl st ?_; rintro T w1 s1; have lT := run_loadG agg_opt (vs := o.cells) rfl s1.rowAll)
      | (go_at_call 42; refine ocheck_c s1 ?_; rintro w2 s2; rw [HC.out]))
    exact HK.out _ s2.drop
  · have d1 : decide (site < 0) = false := decide_eq_false h0
    have d2 : decide (o.nodes ≤ site) = true := decide_eq_true (by omega)
    clear hs h0
    go_enter Tryz.func13, Tryz.ntmps13
    go_wp2_with (first
      | (refine wpl_boxA (vs := o.cells) rfl (.tmp 1) rfl rfl st ?_; rintro T w1 s1; have lT := run_loadG agg_opt (vs := o.cells) rfl s1.rowAll)
      | (go_at_call 42; refine ocheck_c s1 ?_; rintro w2 s2; rw [HC.out]; have l0 := run_ldP (t := 3) (by kernel_rfl) (optL s2).1))
    exact HK.out _ s2.drop

/-- The journal of a disk tells these records. -/
def JOpens (d : Nat) (D D' : DskV) (ls : List (List UInt8)) : Prop :=
  ∀ (W w : World) (R : List HP) (post : Ending → World → Prop), St W w (DskH d D :: R) →
    (∀ b a n c w', St W w' (JrnH b d :: DskH d D' :: RecsH a n c ls :: R) → post (.returned (.tuple #[.pointer (some ⟨b, 0, none⟩), .slice a n c, .int .i64 0])) w') →
    Calls Tryz.prog 61 #[.pointer (some ⟨d, 0, none⟩)] w post
/-- An entry's record is gone through again. -/
def Recovers (e : EnV) : Prop :=
  ∀ (W w : World) (R : List HP) (post : Ending → World → Prop) (A : RAd) (q : RepV) (a : Option Addr) (n c : Nat), RepOK q → Rds W R 1 a n c (byC (encE e)) → St W w (RepA A q :: R) →
    (q.recOK e = true → ∀ w', St W w' (RepA A (q.rec1 e) :: R) → post (.returned (.bool true)) w') → (q.recOK e = false → ∀ w', St W w' (DskH A.d q.d :: R) → post (.returned (.bool false)) w') →
    Calls Tryz.prog 67 #[.pointer (some ⟨A.p, 0, none⟩), .slice a n c] w post

attribute [local go_sem ↓] execOp_buildR
attribute [local go_sem] run_buildR
set_option maxRecDepth 100000 in
set_option maxHeartbeats 16000000 in
/-- Open, out of what the journal and recover do. -/
theorem open_g {o : OptV} {site : Int} {d : Nat} {D D' : DskV} {es : List EnV} (hc : o.check = 0) (hs : 0 ≤ site ∧ site < o.nodes) (hd : DskOK D')
    (HJ : JOpens d D D' (es.map encE)) (HR : ∀ e ∈ es, Recovers e)
    (st : St W w (DskH d D :: R))
    (K1 : ∀ q A w', (RepV.fresh o.nodes o.quota o.retain o.t1 o.t2 site D').recAll es = some q → A.d = d → St W w' (RepA A q :: R) → post (.returned (.tuple #[.pointer (some ⟨A.p, 0, none⟩), .int .i64 0])) w')
    (K2 : ∀ w', (RepV.fresh o.nodes o.quota o.retain o.t1 o.t2 site D').recAll es = none → St W w' (DskH d D' :: R) → post (.returned (.tuple #[.pointer none, .int .i64 12])) w') :
    Calls Tryz.prog 13 #[.int .i64 site, .agg o.cells.toArray, .pointer (some ⟨d, 0, none⟩)] w post := by
  have HK1 := hid K1; have HK2 := hid K2; clear K1 K2
  have HC := hid hc
  obtain ⟨o1, o2, o3, o4, o5, o6⟩ := check_ok hc
  have hok : RepOK (RepV.fresh o.nodes o.quota o.retain o.t1 o.t2 site D') := RepOK.fresh o1 o2 hs o4 hd
  have HOK := hid hok
  have hroom : 1 ≤ o.nodes * o.quota ∧ o.nodes * o.quota ≤ 768 := by
    constructor
    · have := Int.mul_le_mul (a := 1) (b := 1) (c := o.nodes) (d := o.quota) o1.1 o2.1 (by omega) (by omega); omega
    · have := Int.mul_le_mul (a := o.nodes) (b := o.quota) (c := 12) (d := 64) o1.2 o2.2 (by omega) (by omega); omega
  have hw : IntKind.i64.wrap (o.nodes * o.quota) = o.nodes * o.quota := IntWalk.i64_in _ (by omega)
  have d1 : decide (site < 0) = false := decide_eq_false (by omega)
  have d2 : decide (o.nodes ≤ site) = false := decide_eq_false (by omega)
  have HHJ := hid HJ; have HHR := hid HR
  have HO := hid (And.intro o1 (And.intro o2 (And.intro hs (And.intro o4 (And.intro o5 hroom)))))
  obtain ⟨F, hF⟩ : ∃ F, RepV.fresh o.nodes o.quota o.retain o.t1 o.t2 site D' = F := ⟨_, rfl⟩
  have HF := hid hF
  rw [hF] at HK1 HK2 HOK
  clear hc o1 o2 o3 o4 o5 o6 hok hd hroom hs hF HJ HR
  go_enter Tryz.func13, Tryz.ntmps13
  go_wp2_with (first
    | (refine wpl_boxA (vs := o.cells) rfl (.tmp 1) rfl rfl st ?_; rintro T w1 s1; have lT := run_loadG agg_opt (vs := o.cells) rfl s1.rowAll)
    | (go_at_call 42; refine ocheck_c s1 ?_; rintro w2 s2; rw [HC.out]; have l0 := run_ldP (t := 3) (by kernel_rfl) (optL s2).1)
    | (go_at_call 61; refine HHJ.out _ _ _ _ (St.pick 1 s2) ?_; rintro jb ra rn rc w3 s3; obtain ⟨ps, hps, s4⟩ := RecsH.open (St.pick 2 s3); have HPS := hid hps; clear hps))
  have s5 : St W w3 (JrnH jb d :: DskH d D' :: RecsP ra rn rc ps :: row T 0 o.cells :: R) := s4.perm [1, 1]
  clear s3 s4
  go_cut [12] (fun v wx => ∃ P ix, v = .pointer (some ⟨P, 0, none⟩) ∧ St W wx (row P 0 (newC o ix jb) :: IdxH ix [] :: JrnH jb d :: DskH d D' :: RecsP ra rn rc ps :: row T 0 o.cells :: R))
  case first =>
    have u := s5.drew
    have gA := run_loadG agg_opt (vs := o.cells) rfl (St.pick 3 u).rowAll
    go_region_law (go_simp; go_at_call 62; refine inew_c u ?_; rintro ix w5 s6; have gB := run_loadG agg_opt (vs := o.cells) rfl (St.pick 4 s6).rowAll)
    all_goals
      go_wp2_with fail
      go_meet
      case rel => exact ⟨_, _, rfl, s6.alloc (newC o ix jb).toArray 83⟩
  case rest =>
  obtain ⟨P, ix, rfl, s6⟩ := hcut
  obtain ⟨rm, hrm⟩ : ∃ rm, o.nodes * o.quota = rm := ⟨_, rfl⟩
  have HRM := hid hrm
  rw [hrm] at hw
  have hOO := HO.out
  rw [hrm] at hOO
  have HO2 := hid hOO
  have hw2 : IntKind.i64.wrap (o.nodes * o.quota) = rm := by rw [hrm]; exact hw
  clear hOO hrm hw
  have l0 := run_ldP (t := 3) (by kernel_rfl) (optL (St.pick 5 s6)).1
  have l1 := run_ldP (t := 3) (by kernel_rfl) (optL (St.pick 5 s6)).2.1
  have hL : (newC o ix jb).length = 12 := rfl
  have hs12 : 0 ≤ site ∧ site < 12 := by have := HO2.out.2.2.1; have := HO2.out.1; omega
  have ht2 : 0 ≤ o.t2 ∧ o.t2 ≤ 2147483647 := by have := HO2.out.2.2.2.1; have := HO2.out.2.2.2.2.1; omega
  go_wp2_with (first
    | (go_at_call 63; refine tnewE_c HO2.out.2.2.2.2.2.1 (Int.le_trans HO2.out.2.2.2.2.2.2 (by decide)) s6 ?_; rintro tb w7 s7
       have c7 := (St.pick 1 s7).rowCell (i := 7) (v := .pointer none) rfl
       have f7 := (St.pick 1 s7).rowFree (i := 7) (by rw [hL]; decide)
       have s8 := (St.pick 1 s7).rowSet (i := 7) (by rw [hL]; decide) (.pointer (some ⟨tb, 0, none⟩))
       rw [Nat.zero_add] at c7 f7 s8)
    | (go_at_call 64; refine tnewB_c (n := 4096) (by decide) (by decide) s8 ?_; rintro ow w9 s9
       have c9 := (St.pick 1 s9).rowCell (i := 8) (v := .pointer none) rfl
       have f9 := (St.pick 1 s9).rowFree (i := 8) (by rw [List.length_set, hL]; decide)
       have sA := (St.pick 1 s9).rowSet (i := 8) (by rw [List.length_set, hL]; decide) (.pointer (some ⟨ow, 0, none⟩))
       rw [Nat.zero_add] at c9 f9 sA
       have l4 := run_ldP (t := 3) (by kernel_rfl) (optL (St.pick 7 sA)).2.2)
    | (go_at_call 65; refine gnew_c hs12 ht2 sA ?_; rintro gr gp wB sB
       have cB := (St.pick 2 sB).rowCell (i := 10) (v := .pointer none) rfl
       have fB := (St.pick 2 sB).rowFree (i := 10) (by rw [List.length_set, List.length_set, hL]; decide)
       have sC := (St.pick 2 sB).rowSet (i := 10) (by rw [List.length_set, List.length_set, hL]; decide) (.pointer (some ⟨gr, 0, none⟩))
       rw [Nat.zero_add] at cB fB sC)
    | (go_at_call 66; refine clkNew_c hs12 sC ?_; rintro ck wD sD
       have cD := (St.pick 1 sD).rowCell (i := 5) (v := .pointer none) rfl
       have fD := (St.pick 1 sD).rowFree (i := 5) (by rw [List.length_set, List.length_set, List.length_set, hL]; decide)
       have sE := (St.pick 1 sD).rowSet (i := 5) (by rw [List.length_set, List.length_set, List.length_set, hL]; decide) (.pointer (some ⟨ck, 0, none⟩))
       rw [Nat.zero_add] at cD fD sE))
  obtain ⟨A, hA⟩ : ∃ A : RAd, A = ⟨P, ck, tb, ow, ix, gr, gp, jb, d⟩ := ⟨_, rfl⟩
  obtain ⟨hAp, hAd⟩ : A.p = P ∧ A.d = d := by rw [hA]; exact ⟨rfl, rfl⟩
  have s0 : St W (wD.setCell ⟨P, 5, none⟩ (.pointer (some ⟨ck, 0, none⟩))) (RepA A F :: RecsP ra rn rc ps :: row T 0 o.cells :: R) := by
    have h := sE.perm [0, 0, 3, 2, 2]
    rw [← HF.out, hA]
    refine RepA.open.2 ?_
    have hroom : (RepV.fresh o.nodes o.quota o.retain o.t1 o.t2 site D').room = rm := HRM.out
    rw [hroom]
    exact h
  generalize wD.setCell ⟨P, 5, none⟩ (.pointer (some ⟨ck, 0, none⟩)) = w0 at s0 ⊢
  have HPL : Hid (ps.length = rn) := hid (by have := (recs_rd _ (St.pick 1 s0)).len; simpa using this)
  have HEL : Hid (es.length = ps.length) := hid (by have := congrArg List.length HPS.out; simpa using this.symm)
  have hrn : rn ≤ 9223372036854775807 := (recs_rd _ (St.pick 1 s0)).big
  have HAd := hid hAd
  clear c7 f7 s7 s8 c9 f9 s9 sA cB fB sB sC cD fD sD sE l0 l1 l4 hL hs12 ht2 hw2 s6 hA hAd
  subst hAp
  go_loopw [81] (fun ii wr => ∃ (i : Nat) (q : RepV), i ≤ rn ∧ ii = .int .i64 i ∧ Hid (F.recAll (es.take i) = some q) ∧ Hid (RepOK q ∧ q.d = D') ∧ St W wr (RepA A q :: RecsP ra rn rc ps :: row T 0 o.cells :: R)) (fun ii _ => rn - (intOf ii).toNat)
  case atStart => exact ⟨0, F, Nat.zero_le _, rfl, hid (by rw [List.take_zero]; rfl), hid ⟨HOK.out, by rw [← HF.out]; rfl⟩, s0⟩
  case round =>
    obtain ⟨i, q, hi, rfl, HQ, HQO, sr⟩ := hrel
    by_cases hlt : i < rn
    · have hi2 : (i : Int) < (rn : Int) := by omega
      have hiP : i < ps.length := by rw [HPL.out]; exact hlt
      have hiE : i < es.length := by rw [HEL.out]; exact hiP
      have rd := recs_rd _ (St.pick 1 sr)
      obtain ⟨g3, o3, rfl⟩ := rd.addr (by omega)
      have ci := rd.at (i := i) (u := (ps[i]).cell) (by simp [hiP])
      have hrx := recs_at (W := W) (R := row T 0 o.cells :: R) (a := some ⟨g3, o3, none⟩) (n := rn) (c := rc) (List.getElem_mem hiP)
      have hbs : ps[i].bs = encE es[i] := by
        have := congrArg (fun l => l[i]?) HPS.out
        simpa [hiP, hiE] using this
      have hts : es.take (i + 1) = es.take i ++ [es[i]] := List.take_succ_eq_append_getElem hiE
      have hm := List.getElem_mem hiE
      obtain ⟨x, hx⟩ : ∃ x, ps[i] = x := ⟨_, rfl⟩
      obtain ⟨e, he⟩ : ∃ e, es[i] = e := ⟨_, rfl⟩
      rw [hx] at ci hrx hbs
      rw [he] at hbs hts hm
      rw [hbs] at hrx
      have HRC := HHR.out e hm
      unfold Recovers at HRC
      have HRC2 := hid HRC
      have HTS := hid hts
      have HRX := hid hrx
      simp only [PtV.cell] at ci
      have ci2 := run_ldP (t := 104) (by kernel_rfl) ci
      have HSN : Hid (F.recAll (es.take (i + 1)) = if q.recOK e = true then some (q.rec1 e) else none) := hid (by rw [HTS.out, recAll_snoc, HQ.out]; rfl)
      have HEI : Hid (es = es.take (i + 1) ++ es.drop (i + 1)) := hid (List.take_append_drop _ _).symm
      clear hx he hts hrx hbs rd hiP hiE hm HTS HRC
      cases hb : q.recOK e with
      | true =>
        have HB := hid hb
        clear hb
        go_wp2_with (go_at_call 67; refine HRC2.out _ _ _ _ A q _ _ _ HQO.out.1 HRX.out sr ?_ (fun h => absurd h (by rw [HB.out]; simp)); rintro - w7 s7)
        go_roundw
        case rel => exact ⟨i + 1, q.rec1 e, by omega, by go_num, hid (by rw [HSN.out, if_pos HB.out]), hid ⟨HQO.out.1.rec1 HB.out, (rec1_d q e).trans HQO.out.2⟩, s7⟩
        case measure => simp [intOf]; omega
      | false =>
        have HB := hid hb
        clear hb
        go_wp2_with (go_at_call 67; refine HRC2.out _ _ _ _ A q _ _ _ HQO.out.1 HRX.out sr (fun h => absurd h (by rw [HB.out]; simp)) ?_; rintro - w7 s7)
        exact HK2.out _ (by rw [HEI.out, recAll_append, HSN.out, if_neg (by rw [HB.out]; simp)]; rfl) (by have e1 := HQO.out.2; have e2 := HAd.out; rw [e1, e2] at s7; exact (s7.perm [1, 1]).dropN 2)
    · have hie : i = rn := by omega
      subst hie
      have hq := HQ.out
      rw [List.take_of_length_le (by rw [HEL.out, HPL.out]; exact Nat.le_refl _)] at hq
      have HQ2 := hid hq
      clear hq
      go_wp2_with fail
      exact HK1.out q A _ HQ2.out HAd.out ((sr.perm [1, 1]).dropN 2)
end
end Go.Proofs.YtggbeedghblakaaGreatDoor
