/- Idxs: several texts, joined. The index of marks: which of two is the later one; where a mark stands. Printed by mkIdxA.py. -/
import Derived.Test.YtojfjbbggpfijaaGreatDoorTabsB
import Derived.Test.YtojfjbbggpfijaaGreatDoorMarks
import Derived.Test.YtojfjbbggpfijaaGreatDoorLibR
namespace Go.Proofs.YtojfjbbggpfijaaGreatDoor
open Go.RowKit Go.Qd

def cmpM (a b : MkV) : Int := orI (cmpS a.c a.s b.c b.s) (cmpK a.key b.key)
theorem cmpM_lt {a b : MkV} : decide (cmpM a b < 0) = mLt b a := by
  have h1 := @cmpK_lt a.key b.key
  unfold cmpM orI mLt
  by_cases h : cmpS a.c a.s b.c b.s = 0
  · rw [if_neg (by simp [h]), h1, h]; simp
  · rw [if_pos h, decide_eq_false h]; simp
theorem cmpM_zero {a b : MkV} : (cmpM a b == 0) = decide (b = a) := by
  have h1 := @cmpK_zero a.key b.key
  unfold cmpM orI
  by_cases h : cmpS a.c a.s b.c b.s = 0
  · rw [if_neg (by simp [h]), h1]
    obtain ⟨e1, e2⟩ := cmpS_zero.1 h
    by_cases hk : a.key = b.key
    · have : b = a := by cases a; cases b; simp_all
      simp [hk, this]
    · have : ¬ b = a := fun e => hk (by rw [e])
      simp [hk, this]
  · rw [if_pos h]
    have : ¬ b = a := fun e => h (by rw [e]; exact cmpS_zero.2 ⟨rfl, rfl⟩)
    rw [decide_eq_false this]; exact beq_eq_false_iff_ne.2 h

attribute [local go_sem ↓] execOp_ldAny
section
variable {W w : World} {R : List HP} {post : Ending → World → Prop}

set_option maxRecDepth 100000 in
set_option maxHeartbeats 4000000 in
theorem mkCmp_c {a b : MkV} (st : St W w R) (K : ∀ w', St W w' R → post (.returned (.int .i64 (cmpM a b))) w') : Calls Tryz.prog 223 #[.agg a.cells.toArray, .agg b.cells.toArray] w post := by
  have HK := hid K; clear K
  go_enter Tryz.func223, Tryz.ntmps223
  go_wp2_with (first
    | (refine wpl_boxA (vs := a.cells) rfl (.tmp 0) rfl rfl st ?_; rintro T w1 s1)
    | (refine wpl_boxA (vs := b.cells) rfl (.tmp 1) rfl rfl s1 ?_; rintro U w2 s2))
  try simp only [Act.put, List.setIfInBounds_toArray, List.set_cons_succ, List.set_cons_zero]
  have hN : Nonempty (Cls fun w' => St W w' (row U 0 b.cells :: row T 0 a.cells :: R)) := Cls.inh s2
  have f0 := fun s : Cls (fun w' => St W w' (row U 0 b.cells :: row T 0 a.cells :: R)) => (mkL (St.pick 1 s.h)).1
  have f1 := fun s : Cls (fun w' => St W w' (row U 0 b.cells :: row T 0 a.cells :: R)) => (mkL (St.pick 1 s.h)).2
  have g0 := fun s : Cls (fun w' => St W w' (row U 0 b.cells :: row T 0 a.cells :: R)) => (mkL s.h).1
  have g1 := fun s : Cls (fun w' => St W w' (row U 0 b.cells :: row T 0 a.cells :: R)) => (mkL s.h).2
  obtain ⟨x, hx⟩ : ∃ x, cmpS a.c a.s b.c b.s = x := ⟨_, rfl⟩
  obtain ⟨y, hy⟩ : ∃ y, cmpK a.key b.key = y := ⟨_, rfl⟩
  have HE : Hid (cmpM a b = orI x y) := hid (by rw [← hx, ← hy]; rfl)
  have HX := hid hx; have HY := hid hy
  clear hx hy
  refine wp_region_class_tail (fun w' => St W w' (row U 0 b.cells :: row T 0 a.cells :: R)) 10 (by kernel_rfl) (by kernel_rfl) s2.drew ?_
  simp only [List.take_succ_cons, List.take_zero, List.drop_succ_cons, List.drop_zero]
  repeat (go_big_quiet_step ((rename_i s; first
    | (go_at_call 100; refine cmpS_c s.h ?_; rintro w4 s4; rw [HX.out]; exact Cls.end _ s4)
    | (go_at_call 146; refine cmpK_c ?_; rw [HY.out]; exact Cls.end _ s.h))))
  refine wpQuiet_nil ?_
  rintro ⟨w5, s5⟩
  dsimp only
  have s6 := s5.alloc #[.int .i64 x, .int .i64 y] 3
  go_wp2_with (go_at_call 154; refine or2_c s6 ?_)
  exact HE.out ▸ HK.out _ (s6.dropN 3)

set_option maxRecDepth 100000 in
theorem placeF_c {a b : MkV} (st : St W w R) (K : ∀ w', St W w' R → post (.returned (.int .i64 (cmpM b a))) w') : Calls Tryz.prog 222 #[.agg a.cells.toArray, .agg b.cells.toArray] w post := by
  have HK := hid K; clear K
  go_enter Tryz.func222, Tryz.ntmps222
  go_wp2_with (first
    | (refine wpl_boxA (vs := a.cells) rfl (.tmp 0) rfl rfl st ?_; rintro T w1 s1)
    | (refine wpl_boxA (vs := b.cells) rfl (.tmp 1) rfl rfl s1 ?_; rintro U w2 s2
       have f0 := run_loadG agg_mk (vs := a.cells) rfl (St.pick 1 s2).rowAll
       have g0 := run_loadG agg_mk (vs := b.cells) rfl s2.rowAll)
    | (go_at_call 223; refine mkCmp_c s2 ?_; rintro w3 s3))
  exact HK.out _ (s3.dropN 2)

set_option maxRecDepth 100000 in
set_option maxHeartbeats 4000000 in
theorem bsfM_c {a : Option Addr} {n c : Nat} {l : List MkV} {k : MkV} (hp : Rds W R 3 a n c (mkC l)) (hs : SrtK mLt id l) (hn : n ≤ 4096) (st : St W w R)
    (K : ∀ w', St W w' R → post (.returned (.tuple #[.int .i64 (rankK mLt id l k : Nat), .bool (hasK id l k)])) w') :
    Calls Tryz.prog 221 #[.slice a n c, .agg k.cells.toArray, .func (.func 222) #[] #[]] w post := by
  have HK := hid K; clear K
  have HN : Hid (l.length = n) := hid (mkC_ln (hp w st))
  have hr : rankK mLt id l k ≤ n := by rw [← HN.out]; exact rankK_le
  have HS := hid hs
  have HE : Hid (∀ i (h : i < l.length), i = rankK mLt id l k → hasK id l k = decide (l[i] = k)) := hid (fun i h e => by subst e; exact hasK_at mLt_ord hs h)
  have HD : Hid (¬ rankK mLt id l k < l.length → hasK id l k = false) := hid (hasK_end mLt_ord hs)
  have HL : Hid (∀ i (hi : i < l.length), i < rankK mLt id l k → mLt l[i] k = true) := hid (fun i hi h => rankK_lt mLt_ord hs hi h)
  have HG : Hid (∀ i (hi : i < l.length), rankK mLt id l k ≤ i → mLt l[i] k = false) := hid (fun i hi h => rankK_ge mLt_ord hs hi h)
  obtain ⟨r, hre⟩ : ∃ r, rankK mLt id l k = r := ⟨_, rfl⟩
  rw [hre] at hr HK HL HG HD HE
  clear hre hs
  go_enter Tryz.func221, Tryz.ntmps221
  go_wp2_with (refine wpl_boxA (vs := k.cells) rfl (.tmp 1) rfl rfl st ?_; rintro T w1 st1)
  go_loopw [9, 10] (fun ii jj wr => ∃ i j : Nat, i ≤ r ∧ r ≤ j ∧ j ≤ n ∧ ii = .int .i64 i ∧ jj = .int .i64 j ∧ St W wr (row T 0 k.cells :: R)) (fun ii jj _ => (intOf jj).toNat - (intOf ii).toNat)
  case atStart => exact ⟨0, n, Nat.zero_le _, hr, Nat.le_refl _, rfl, rfl, st1⟩
  case round =>
    obtain ⟨i, j, h1, h2, h3, rfl, rfl, sr⟩ := hrel
    have rd := hp.cons _ sr
    have hN : Nonempty (Cls (fun w' => St W w' (row T 0 k.cells :: R))) := Cls.inh sr
    have cT := fun s : Cls (fun w' => St W w' (row T 0 k.cells :: R)) => run_loadG agg_mk (vs := k.cells) rfl s.h.rowAll
    by_cases hlt : i < j
    · obtain ⟨g3, o3, rfl⟩ := rd.addr (by omega)
      obtain ⟨m, hm⟩ : ∃ m, (i + j) / 2 = m := ⟨_, rfl⟩
      have hmI : ((i : Int) + (j : Int)) / 2 = (m : Int) := by omega
      have hmn : m < n := by omega
      have hiA : m < l.length := by rw [HN.out]; exact hmn
      have ci := fun s : Cls (fun w' => St W w' (row T 0 k.cells :: R)) => mkC_ld (hp.cons _ s.h) hiA
      have HL1 := hid (HL.out m hiA); have HG1 := hid (HG.out m hiA)
      obtain ⟨q, hq⟩ : ∃ q, l[m] = q := ⟨_, rfl⟩
      rw [hq] at ci HL1 HG1
      clear hq rd
      cases hb : mLt q k with
      | true =>
        have hv : decide (cmpM k q < 0) = true := by rw [cmpM_lt, hb]
        have hmr : m < r := by
          rcases Nat.lt_or_ge m r with h | h
          · exact h
          · have := HG1.out h; rw [hb] at this; cases this
        obtain ⟨v, hve⟩ : ∃ v, cmpM k q = v := ⟨_, rfl⟩
        have HV := hid hve
        rw [hve] at hv
        clear hve hb HL1 HG1
        go_wp2_with fail
        refine wp_region_class (fun w' => St W w' (row T 0 k.cells :: R)) (by kernel_rfl) (by kernel_rfl) sr.drew ?_
        repeat (go_big_quiet_step ((rename_i s; go_at_call 222; refine placeF_c s.h ?_; rintro w4 s4; rw [HV.out]; exact Cls.end _ s4)))
        refine wpQuiet_nil ?_
        rintro ⟨w6, s6⟩
        dsimp only
        go_wp2_with fail
        go_roundw
        case rel => exact ⟨m + 1, j, by omega, h2, h3, by go_num, rfl, s6⟩
        case measure => simp [intOf]; omega
      | false =>
        have hv : decide (cmpM k q < 0) = false := by rw [cmpM_lt, hb]
        have hmr : r ≤ m := by
          rcases Nat.lt_or_ge m r with h | h
          · have := HL1.out h; rw [hb] at this; cases this
          · exact h
        obtain ⟨v, hve⟩ : ∃ v, cmpM k q = v := ⟨_, rfl⟩
        have HV := hid hve
        rw [hve] at hv
        clear hve hb HL1 HG1
        go_wp2_with fail
        refine wp_region_class (fun w' => St W w' (row T 0 k.cells :: R)) (by kernel_rfl) (by kernel_rfl) sr.drew ?_
        repeat (go_big_quiet_step ((rename_i s; go_at_call 222; refine placeF_c s.h ?_; rintro w4 s4; rw [HV.out]; exact Cls.end _ s4)))
        refine wpQuiet_nil ?_
        rintro ⟨w6, s6⟩
        dsimp only
        go_wp2_with fail
        go_roundw
        case rel => exact ⟨i, m, h1, hmr, by omega, rfl, rfl, s6⟩
        case measure => simp [intOf]; omega
    · have e1 : i = r := by omega
      have e2 : j = r := by omega
      subst e1; subst e2
      by_cases hin : j < n
      · obtain ⟨g3, o3, rfl⟩ := rd.addr (by omega)
        have hiA : j < l.length := by rw [HN.out]; exact hin
        have ci := fun s : Cls (fun w' => St W w' (row T 0 k.cells :: R)) => mkC_ld (hp.cons _ s.h) hiA
        have HE1 := hid (HE.out j hiA rfl)
        obtain ⟨q, hq⟩ : ∃ q, l[j] = q := ⟨_, rfl⟩
        rw [hq] at ci HE1
        clear hq rd
        obtain ⟨v, hve⟩ : ∃ v, cmpM k q = v := ⟨_, rfl⟩
        have HV := hid hve
        have HZ : Hid ((v == 0) = hasK id l k) := hid (by rw [HE1.out, ← hve, cmpM_zero])
        clear hve HE1
        have hin2 : (j : Int) < (n : Int) := by omega
        go_wp2_with fail
        refine wp_region_class (fun w' => St W w' (row T 0 k.cells :: R)) (by kernel_rfl) (by kernel_rfl) sr.drew ?_
        repeat (go_big_quiet_step ((rename_i s; go_at_call 222; refine placeF_c s.h ?_; rintro w4 s4; rw [HV.out]; exact Cls.end _ s4)))
        refine wpQuiet_nil ?_
        rintro ⟨w6, s6⟩
        dsimp only
        go_wp2_with fail
        have := HK.out _ s6.drop
        rw [← HZ.out] at this
        exact this
      · have hout : hasK id l k = false := HD.out (by rw [HN.out]; exact hin)
        have HO := hid hout
        clear hout rd
        have hin2 : ¬ (j : Int) < (n : Int) := by omega
        go_wp2_with fail
        refine wp_region_class (fun w' => St W w' (row T 0 k.cells :: R)) (by kernel_rfl) (by kernel_rfl) sr.drew ?_
        repeat (go_big_quiet_step (fail))
        refine wpQuiet_nil ?_
        rintro ⟨w6, s6⟩
        dsimp only
        go_wp2_with fail
        have := HK.out _ s6.drop
        rw [HO.out] at this
        exact this
end
end Go.Proofs.YtojfjbbggpfijaaGreatDoor

/- The index of marks in memory: place, Get, Drop. -/
namespace Go.Proofs.YtojfjbbggpfijaaGreatDoor
open Go.RowKit Go.Qd

def ixGet (l : List MkV) (k : ByteArray) : Option MkV := l.find? fun m => decide (m.key = k)
def stV (m : MkV) : Value := .agg [Value.int .i64 m.c, .int .i64 m.s].toArray
/-- A map tells of each key what its mark is. -/
structure IOK (acts : List (ByteArray × Value)) (l : List MkV) : Prop where
  nd : (acts.map (·.1)).Nodup
  at_ : ∀ k, ag acts k = (ixGet l k).map stV
/-- Marks that are sorted, of each key one at most. -/
structure IxOK (l : List MkV) : Prop where
  srt : SrtK mLt id l
  one : ∀ m ∈ l, ∀ m' ∈ l, m.key = m'.key → m = m'

theorem ixGet_some {l : List MkV} {k : ByteArray} {m : MkV} (h : ixGet l k = some m) : m ∈ l ∧ m.key = k := by
  refine ⟨List.mem_of_find?_eq_some h, ?_⟩
  have := List.find?_some h; simpa using this
theorem ixGet_none {l : List MkV} {k : ByteArray} (h : ixGet l k = none) : ∀ m ∈ l, m.key ≠ k := by
  have := List.find?_eq_none.1 h
  intro m hm e; have := this m hm; simp [e] at this
theorem ixDrop_del {l : List MkV} (h : IxOK l) {k : ByteArray} {m : MkV} (hm : ixGet l k = some m) : delK id l m = ixDrop l k := by
  obtain ⟨h1, h2⟩ := ixGet_some hm
  unfold delK ixDrop
  refine List.filter_congr fun x hx => ?_
  by_cases e : x.key = k
  · have : x = m := h.one x hx m h1 (e.trans h2.symm)
    simp [this, h2]
  · have : ¬ x = m := fun e' => e (by rw [e']; exact h2)
    simp [e, this]
theorem ixDrop_out {l : List MkV} {k : ByteArray} (h : ixGet l k = none) : ixDrop l k = l := List.filter_eq_self.2 fun x hx => by simp [ixGet_none h x hx]
theorem mem_ixDrop {l : List MkV} {k : ByteArray} {m : MkV} : m ∈ ixDrop l k ↔ m ∈ l ∧ m.key ≠ k := by simp [ixDrop]
theorem IxOK.drop {l : List MkV} (h : IxOK l) (k : ByteArray) : IxOK (ixDrop l k) :=
  ⟨List.Pairwise.sublist List.filter_sublist h.srt, fun m hm m' hm' e => h.one m (mem_ixDrop.1 hm).1 m' (mem_ixDrop.1 hm').1 e⟩
theorem ixGet_drop (l : List MkV) (k k' : ByteArray) : ixGet (ixDrop l k) k' = if k' = k then none else ixGet l k' := by
  unfold ixGet ixDrop
  rw [List.find?_filter]
  by_cases h : k' = k
  · rw [if_pos h, List.find?_eq_none]
    intro x hx; simp [h]
  · rw [if_neg h]
    congr 1
    funext x
    by_cases e : x.key = k' <;> simp [e, h]
theorem IOK.drop {acts : List (ByteArray × Value)} {l : List MkV} (h : IOK acts l) (k : ByteArray) : IOK (adel acts k) (ixDrop l k) :=
  ⟨nodup_adel h.nd k, fun k' => by rw [ag_adel h.nd, ixGet_drop, h.at_]; split <;> rfl⟩

def IdxH (b : Nat) (l : List MkV) : HP := fun h => ∃ x : Nat × (Option Addr × Nat × Nat) × List (ByteArray × Value), IOK x.2.2 l ∧
  sepL [row b 0 [.map (some x.1), .slice x.2.1.1 x.2.1.2.1 x.2.1.2.2], MapA Value.string x.1 x.2.2, OwnS 3 x.2.1.1 x.2.1.2.1 x.2.1.2.2 (mkC l)] h

theorem strK : KeyT Tryz.prog 9 Value.string := strKey Tryz.underlying9

section
variable {W w : World} {R : List HP} {post : Ending → World → Prop} {b : Nat} {l : List MkV} {k : ByteArray} {m : MkV}

theorem IdxH.open (st : St W w (IdxH b l :: R)) : ∃ mp ao n c acts, IOK acts l ∧ St W w (row b 0 [.map (some mp), .slice ao n c] :: MapA Value.string mp acts :: OwnS 3 ao n c (mkC l) :: R) := by
  obtain ⟨x, s⟩ := St.ex (F := fun (x : Nat × (Option Addr × Nat × Nat) × List (ByteArray × Value)) h => IOK x.2.2 l ∧
    sepL [row b 0 [.map (some x.1), .slice x.2.1.1 x.2.1.2.1 x.2.1.2.2], MapA Value.string x.1 x.2.2, OwnS 3 x.2.1.1 x.2.1.2.1 x.2.1.2.2 (mkC l)] h) st
  obtain ⟨h1, s2⟩ := St.pure s
  exact ⟨_, _, _, _, _, h1, (St.flat _).1 s2⟩
theorem IdxH.close {mp : Nat} {ao : Option Addr} {n c : Nat} {acts : List (ByteArray × Value)} (h : IOK acts l) (st : St W w (row b 0 [.map (some mp), .slice ao n c] :: MapA Value.string mp acts :: OwnS 3 ao n c (mkC l) :: R)) : St W w (IdxH b l :: R) :=
  ((St.flat [row b 0 [.map (some mp), .slice ao n c], MapA Value.string mp acts, OwnS 3 ao n c (mkC l)]).2 st).imp fun _ x => ⟨(mp, (ao, n, c), acts), h, x⟩

end

section
attribute [local go_sem ↓] execOp_ldAny
variable {W w : World} {R : List HP} {post : Ending → World → Prop} {b : Nat} {l : List MkV} {m : MkV}
set_option maxRecDepth 100000 in
set_option maxHeartbeats 4000000 in
/-- Where a mark stands, in a list that is owned. -/
theorem place_c {x : Value} {ao : Option Addr} {n c : Nat} (hs : SrtK mLt id l) (hn : n ≤ 4096) (st : St W w (row b 0 [x, .slice ao n c] :: OwnS 3 ao n c (mkC l) :: R))
    (K : ∀ w', St W w' (row b 0 [x, .slice ao n c] :: OwnS 3 ao n c (mkC l) :: R) → post (.returned (.tuple #[.int .i64 (rankK mLt id l m : Nat), .bool (hasK id l m)])) w') :
    Calls Tryz.prog 201 #[.pointer (some ⟨b, 0, none⟩), .agg m.cells.toArray] w post := by
  have HK := hid K; clear K
  go_enter Tryz.func201, Tryz.ntmps201
  go_wp2_with (refine wpl_boxA (vs := m.cells) rfl (.tmp 1) rfl rfl st ?_; rintro T w1 s1)
  try simp only [Act.put, List.setIfInBounds_toArray, List.set_cons_succ, List.set_cons_zero]
  have hN : Nonempty (Cls fun w' => St W w' (row T 0 m.cells :: row b 0 [x, .slice ao n c] :: OwnS 3 ao n c (mkC l) :: R)) := Cls.inh s1
  have f0 := fun s : Cls (fun w' => St W w' (row T 0 m.cells :: row b 0 [x, .slice ao n c] :: OwnS 3 ao n c (mkC l) :: R)) => run_loadG agg_mk (vs := m.cells) rfl s.h.rowAll
  have f1 : ∀ s : Cls (fun w' => St W w' (row T 0 m.cells :: row b 0 [x, .slice ao n c] :: OwnS 3 ao n c (mkC l) :: R)), (loadG 60 (.pointer (some ⟨b, 1, none⟩))).run Tryz.prog s.w = .ok (.slice ao n c) s.w := fun s => by
    have := (rowTwo (St.pick 1 s.h)).2.1
    rw [Nat.zero_add] at this
    exact run_ldP (by kernel_rfl) this
  have HP : Hid (Rds W (row T 0 m.cells :: row b 0 [x, .slice ao n c] :: OwnS 3 ao n c (mkC l) :: R) 3 ao n c (mkC l)) := hid (fun w' s' => OwnS.rd (St.pick 2 s'))
  refine wp_region_class (fun w' => St W w' (row T 0 m.cells :: row b 0 [x, .slice ao n c] :: OwnS 3 ao n c (mkC l) :: R)) (by kernel_rfl) (by kernel_rfl) s1.drew ?_
  repeat (go_big_quiet_step ((rename_i s; go_at_call 221; refine bsfM_c HP.out hs hn s.h ?_; rintro w4 s4; exact Cls.end _ s4)))
  refine wpQuiet_nil ?_
  rintro ⟨w6, s6⟩
  dsimp only
  go_wp2_with fail
  exact HK.out _ s6.drop
end

section
variable {W w : World} {R : List HP} {post : Ending → World → Prop} {b : Nat} {l : List MkV} {k : ByteArray} {m : MkV}

set_option maxRecDepth 100000 in
set_option maxHeartbeats 4000000 in
theorem ixget_c (st : St W w (IdxH b l :: R))
    (K : ∀ w', St W w' (IdxH b l :: R) → post (.returned (.tuple #[.agg ((ixGet l k).getD mk0).cells.toArray, .bool (ixGet l k).isSome])) w') :
    Calls Tryz.prog 219 #[.pointer (some ⟨b, 0, none⟩), .string k] w post := by
  have HK := hid K; clear K
  obtain ⟨mp, ao, n, c, acts, hi, s⟩ := IdxH.open st
  obtain ⟨g0, g1, _⟩ := rowTwo s
  rw [Nat.zero_add] at g1
  have hk := hi.at_ k
  have HI := hid hi
  clear hi
  cases hg : ixGet l k with
  | some m =>
    have hmk : m.key = k := (ixGet_some hg).2
    rw [hg] at HK hk
    clear hg
    go_enter Tryz.func219, Tryz.ntmps219
    go_wp2_with (first
      | (refine wpl_allocA rfl rfl zero_mkOf s ?_; rintro T w1 s1
         have hlk := run_lookup_ok (t := 224) strK Tryz.underlying224 zero_stOf (St.pick 2 s1) k
         rw [hk] at hlk
         obtain ⟨g0, g1, _⟩ := rowTwo (St.pick 1 s1)
         rw [Nat.zero_add] at g1)
      | (refine wpl_allocA rfl rfl zero_stOf s1 ?_; rintro U w2 s2)
      | (refine wpl_storeA (vs := [.int .i64 m.c, .int .i64 m.s]) rfl (.tmp 6) (.tmp 15) (by rfl) agg_st (by rfl) (by rfl) rfl (by simp [Value.oneCell']) s2 rfl ?_; rintro w3 s3)
      | (refine wpl_loadA (vs := [.int .i64 m.c, .int .i64 m.s]) rfl (.tmp 6) (by rfl) agg_st (by rfl) rfl s3.rowAll ?_)
      | (refine wpl_build rfl rfl (v := .agg m.cells.toArray) (by rw [← hmk]; kernel_rfl) ?_)
      | (refine wpl_storeA (vs := m.cells) rfl (.tmp 4) (.tmp 22) (by rfl) agg_mk (by rfl) (by rfl) rfl (mk_one m) (St.pick 1 s3) rfl ?_; rintro w4 s4))
    have hL := run_loadA agg_mk rfl s4.rowAll
    refine bodyPost_ret (v := .tuple #[.agg m.cells.toArray, .bool true]) (by simp [results, Tryz.results219, asAddr, hL]) rfl (HK.out _ ?_)
    exact IdxH.close HI.out (s4.dropN 2)
  | none =>
    rw [hg] at HK hk
    clear hg
    go_enter Tryz.func219, Tryz.ntmps219
    go_wp2_with (first
      | (refine wpl_allocA rfl rfl zero_mkOf s ?_; rintro T w1 s1
         have hlk := run_lookup_ok (t := 224) strK Tryz.underlying224 zero_stOf (St.pick 2 s1) k
         rw [hk] at hlk
         obtain ⟨g0, g1, _⟩ := rowTwo (St.pick 1 s1)
         rw [Nat.zero_add] at g1)
      | (refine wpl_allocA rfl rfl zero_stOf s1 ?_; rintro U w2 s2)
      | (refine wpl_storeA (vs := [.int .i64 0, .int .i64 0]) rfl (.tmp 6) (.tmp 15) (by rfl) agg_st (by rfl) (by rfl) rfl (by simp [Value.oneCell']) s2 rfl ?_; rintro w3 s3)
      | (refine wpl_build rfl rfl (v := .agg mk0.cells.toArray) (by kernel_rfl) ?_)
      | (refine wpl_storeA (vs := mk0.cells) rfl (.tmp 4) (.tmp 19) (by rfl) agg_mk (by rfl) (by rfl) rfl (mk_one mk0) (St.pick 1 s3) rfl ?_; rintro w4 s4))
    have hL := run_loadA agg_mk rfl s4.rowAll
    refine bodyPost_ret (v := .tuple #[.agg mk0.cells.toArray, .bool false]) (by simp [results, Tryz.results219, asAddr, hL]) rfl (HK.out _ ?_)
    exact IdxH.close HI.out (s4.dropN 2)
end
end Go.Proofs.YtojfjbbggpfijaaGreatDoor

/- The index of marks in memory: Drop, Put, Below, New. -/
namespace Go.Proofs.YtojfjbbggpfijaaGreatDoor
open Go.RowKit Go.Qd

theorem mkC_app (a b : List MkV) : mkC (a ++ b) = mkC a ++ mkC b := by simp [mkC]
theorem mkC_cons (x : MkV) (b : List MkV) : mkC (x :: b) = x.cells ++ mkC b := by simp [mkC]
theorem mkC_take {l : List MkV} {r : Nat} (h : r ≤ l.length) : (mkC l).take (r * 3) = mkC (l.take r) := by
  have e : mkC l = mkC (l.take r) ++ mkC (l.drop r) := by rw [← mkC_app, List.take_append_drop]
  have hl : (mkC (l.take r)).length = r * 3 := by rw [mkC_sz, List.length_take]; omega
  rw [e, ← hl, List.take_left']
  rfl
theorem mkC_drop {l : List MkV} {r : Nat} (h : r ≤ l.length) : (mkC l).drop (r * 3) = mkC (l.drop r) := by
  have e : mkC l = mkC (l.take r) ++ mkC (l.drop r) := by rw [← mkC_app, List.take_append_drop]
  have hl : (mkC (l.take r)).length = r * 3 := by rw [mkC_sz, List.length_take]; omega
  rw [e, ← hl, List.drop_left']
  rfl

section
variable {W w : World} {R : List HP} {post : Ending → World → Prop} {b : Nat} {l : List MkV} {k : ByteArray} {m : MkV}

set_option maxRecDepth 100000 in
set_option maxHeartbeats 4000000 in
theorem ixdrop_c (ho : IxOK l) (hn : l.length ≤ 4096) (st : St W w (IdxH b l :: R))
    (K : ∀ w', St W w' (IdxH b (ixDrop l k) :: R) → post (.returned (.bool (ixGet l k).isSome)) w') :
    Calls Tryz.prog 200 #[.pointer (some ⟨b, 0, none⟩), .string k] w post := by
  have HK := hid K; clear K
  cases hg : ixGet l k with
  | some m =>
    have HG := hid hg
    rw [hg] at HK
    obtain ⟨r, hre⟩ : ∃ r, rankK mLt id l m = r := ⟨_, rfl⟩
    have HR := hid hre
    have hml : hasK id l m = true := hasK_iff.2 ⟨m, (ixGet_some hg).1, rfl⟩
    have hrl : r < l.length := by rw [← hre]; obtain ⟨_, _, _, _, h⟩ := rankK_has mLt_ord ho.srt hml; exact h
    have HP : Hid ((mkC l).take (r * 3) ++ (mkC l).drop ((r + 1) * 3) = mkC (ixDrop l k)) := hid (by
      have h9 : l.take r ++ l.drop (r + 1) = ixDrop l k := by rw [← hre, ← ixDrop_del ho hg]; exact delK_eq mLt_ord ho.srt hml
      rw [← h9, mkC_take (by omega), mkC_drop (by omega), mkC_app])
    clear hg hre hml
    have HO := hid ho
    clear ho
    go_enter Tryz.func200, Tryz.ntmps200
    go_wp2_with (first
      | (go_at_call 219; refine ixget_c st ?_; rintro w1 s1; rw [HG.out])
      | (refine wpl_allocA rfl rfl zero_mkOf s1 ?_; rintro T w2 s2)
      | (refine wpl_storeA (vs := m.cells) rfl (.tmp 5) (.tmp 13) (by rfl) agg_mk (by rfl) (by rfl) rfl (mk_one m) s2 rfl ?_; rintro w3 s3)
      | (refine wpl_loadA (vs := m.cells) rfl (.tmp 5) (by rfl) agg_mk (by rfl) rfl s3.rowAll ?_
         obtain ⟨mp, ao, n, c, acts, hi, s4⟩ := IdxH.open (St.pick 1 s3)
         have HI := hid hi
         have hln : l.length = n := mkC_ln (OwnS.rd (St.pick 2 s4))
         rw [hln] at hn hrl
         clear hi hln
         have s5 := s4.perm [0, 1])
      | (go_at_call 201; refine place_c HO.out.srt hn s5 ?_; rintro w6 s6; rw [HR.out]; obtain ⟨g0, g1, _⟩ := rowTwo s6; rw [Nat.zero_add] at g1)
      | (go_at_call 220; refine delM_c (St.pick 1 s6) hrl (by omega) ?_; rintro a7 c7 w7 s7; rw [HP.out] at s7; obtain ⟨k0, k1, k2⟩ := rowTwo (St.pick 1 s7); rw [Nat.zero_add] at k1 k2
         have s8 := (St.pick 1 s7).rowSet (i := 1) (by simp) (.slice a7 (n - 1) c7)
         rw [Nat.zero_add] at s8
         have s9 : St W _ (MapA Value.string mp acts :: row b 0 [.map (some mp), .slice a7 (n - 1) c7] :: OwnS 3 a7 (n - 1) c7 (mkC (ixDrop l k)) :: row T 0 m.cells :: R) := s8.perm [2]
         obtain ⟨wA, hdel, sA⟩ := run_delete_st (t := 224) strK Tryz.underlying224 s9 k 0 9))
    exact HK.out _ (IdxH.close (HI.out.drop k) (((sA.perm [3]).dropN 1).perm [1]))
  | none =>
    have HG := hid hg
    rw [hg, ixDrop_out hg] at HK
    clear hg
    go_enter Tryz.func200, Tryz.ntmps200
    go_wp2_with (first
      | (go_at_call 219; refine ixget_c st ?_; rintro w1 s1; rw [HG.out])
      | (refine wpl_allocA rfl rfl zero_mkOf s1 ?_; rintro T w2 s2)
      | (refine wpl_storeA (vs := mk0.cells) rfl (.tmp 5) (.tmp 13) (by rfl) agg_mk (by rfl) (by rfl) rfl (mk_one mk0) s2 rfl ?_; rintro w3 s3))
    exact HK.out _ s3.drop
end

def ixPut (l : List MkV) (m : MkV) : List MkV := putK mLt id (ixDrop l m.key) m
theorem ixDrop_has (l : List MkV) (m : MkV) : hasK id (ixDrop l m.key) m = false := hasK_no.2 fun x hx e => (mem_ixDrop.1 hx).2 (by rw [← e]; rfl)
theorem mem_ixPut {l : List MkV} {m x : MkV} : x ∈ ixPut l m ↔ x = m ∨ (x ∈ l ∧ x.key ≠ m.key) := by
  unfold ixPut
  rw [mem_putK mLt_ord, mem_ixDrop]
  constructor
  · rintro (h | ⟨h, _⟩)
    · exact .inl h
    · exact .inr h
  · rintro (h | h)
    · exact .inl h
    · exact .inr ⟨h, fun e => h.2 (by rw [show x = m from e])⟩
theorem IxOK.put {l : List MkV} (h : IxOK l) (m : MkV) : IxOK (ixPut l m) := by
  refine ⟨putK_srt mLt_ord (h.drop m.key).srt m, fun x hx y hy e => ?_⟩
  rcases mem_ixPut.1 hx with rfl | ⟨h1, h2⟩ <;> rcases mem_ixPut.1 hy with rfl | ⟨h3, h4⟩
  · rfl
  · exact absurd e.symm h4
  · exact absurd e h2
  · exact h.one x h1 y h3 e
theorem ixGet_put {l : List MkV} (h : IxOK l) (m : MkV) (k : ByteArray) : ixGet (ixPut l m) k = if k = m.key then some m else ixGet l k := by
  have hp := h.put m
  have hmem : ∀ x, x ∈ ixPut l m → ixGet (ixPut l m) x.key = some x := fun x hx => by
    cases e : ixGet (ixPut l m) x.key with
    | none => exact absurd rfl (ixGet_none e x hx)
    | some y => obtain ⟨h1, h2⟩ := ixGet_some e; rw [hp.one y h1 x hx h2]
  by_cases hk : k = m.key
  · rw [if_pos hk, hk]; exact hmem m (mem_ixPut.2 (.inl rfl))
  · rw [if_neg hk]
    cases e : ixGet l k with
    | some y =>
      obtain ⟨h1, h2⟩ := ixGet_some e
      rw [← h2]; exact hmem y (mem_ixPut.2 (.inr ⟨h1, by rw [h2]; exact hk⟩))
    | none =>
      cases e2 : ixGet (ixPut l m) k with
      | none => rfl
      | some y =>
        obtain ⟨h1, h2⟩ := ixGet_some e2
        rcases mem_ixPut.1 h1 with rfl | ⟨h3, _⟩
        · exact absurd h2.symm hk
        · exact absurd h2 (ixGet_none e y h3)
theorem IOK.put {acts : List (ByteArray × Value)} {l : List MkV} (ho : IxOK l) (m : MkV) (h : IOK acts (ixDrop l m.key)) : IOK (aput acts m.key (stV m)) (ixPut l m) :=
  ⟨nodup_aput h.nd m.key _, fun k => by
    rw [ag_aput, ixGet_put ho, h.at_, ixGet_drop]
    by_cases e : k = m.key
    · rw [if_pos e, if_pos e]; rfl
    · rw [if_neg e, if_neg e, if_neg e]⟩

theorem execOp_bslM (ρ : Operand → Value) (dst : Option Tmp) (a : Operand) (ty : TypeId) (pos : String) (after : Array Edge) (guard : Option (Nat × Bool)) :
    execOp ρ { dst, op := .buildSlice 60 1 #[(0, a)], type := ty, pos, after, guard } = (do pure (.value (← bslG 60 (ρ a)))) := by simp [execOp, bslG]
theorem run_bslM (x : MkV) (w : World) : (bslG 60 (.agg x.cells.toArray)).run Tryz.prog w = .ok (.slice (some ⟨w.heap.size, 0, none⟩) 1 1) (w.alloc (.cells x.cells.toArray 59)) := by kernel_rfl

section
attribute [local go_sem ↓] execOp_ldAny execOp_bslM
attribute [local go_sem] run_bslM
variable {W w : World} {R : List HP} {post : Ending → World → Prop} {b : Nat} {l : List MkV} {k : ByteArray} {m : MkV}

theorem ldIx {x : Value} {ao : Option Addr} {n c : Nat} (s : St W w (row b 0 [x, .slice ao n c] :: R)) : (loadG 224 (.pointer (some ⟨b, 0, none⟩))).run Tryz.prog w = .ok x w ∧
    (loadG 60 (.pointer (some ⟨b, 1, none⟩))).run Tryz.prog w = .ok (.slice ao n c) w ∧ w.cell? ⟨b, 1, none⟩ = some (.slice ao n c) ∧ w.frozen? ⟨b, 1, none⟩ = false := by
  obtain ⟨g0, g1, g2⟩ := rowTwo s
  rw [Nat.zero_add] at g1 g2
  exact ⟨run_ldP (by kernel_rfl) g0, run_ldP (by kernel_rfl) g1, g1, g2⟩

set_option maxRecDepth 100000 in
set_option maxHeartbeats 4000000 in
theorem ixput_c (ho : IxOK l) (hn : l.length ≤ 4095) (st : St W w (IdxH b l :: R))
    (K : ∀ w', St W w' (IdxH b (ixPut l m) :: R) → post (.returned (.bool (ixGet l m.key).isSome)) w') :
    Calls Tryz.prog 171 #[.pointer (some ⟨b, 0, none⟩), .agg m.cells.toArray] w post := by
  have HK := hid K; clear K
  obtain ⟨q, hq⟩ : ∃ q, ixDrop l m.key = q := ⟨_, rfl⟩
  have hqo : IxOK q := by rw [← hq]; exact ho.drop _
  have hqn : q.length ≤ 4095 := by rw [← hq]; exact Nat.le_trans (List.length_filter_le _ _) hn
  have hqm : hasK id q m = false := by rw [← hq]; exact ixDrop_has l m
  obtain ⟨r, hre⟩ : ∃ r, rankK mLt id q m = r := ⟨_, rfl⟩
  have HR := hid hre
  have hrl : r ≤ q.length := by rw [← hre]; exact rankK_le
  have HP : Hid ((mkC q).take (r * 3) ++ m.cells ++ (mkC q).drop (r * 3) = mkC (ixPut l m)) := hid (by
    have h9 : q.take r ++ [m] ++ q.drop r = ixPut l m := by rw [← hre]; unfold ixPut; rw [hq]; exact putK_new mLt_ord hqo.srt m hqm
    rw [← h9, mkC_take hrl, mkC_drop hrl, mkC_app, mkC_app, mkC_cons]; simp [mkC])
  have HM := hid hqm; have HQ := hid hq; have HQO := hid hqo; have HO := hid ho
  clear hre hq hqm hqo ho
  go_enter Tryz.func171, Tryz.ntmps171
  go_wp2_with (first
    | (refine wpl_boxA (vs := m.cells) rfl (.tmp 1) rfl rfl st ?_; rintro T w1 s1; obtain ⟨_, c2⟩ := mkL s1; have cT := run_loadG agg_mk (vs := m.cells) rfl s1.rowAll)
    | (go_at_call 200; refine ixdrop_c HO.out (by omega) (St.pick 1 s1) ?_; rintro w2 s2; rw [HQ.out] at s2
       have cT := run_loadG agg_mk (vs := m.cells) rfl (St.pick 1 s2).rowAll
       obtain ⟨mp, ao, n, c, acts, hi, s3⟩ := IdxH.open s2
       have HI := hid hi
       have hln : q.length = n := mkC_ln (OwnS.rd (St.pick 2 s3))
       rw [hln] at hqn hrl
       clear hi hln
       have s4 := s3.perm [0, 1])
    | (go_at_call 201; refine place_c HQO.out.srt (by omega) s4 ?_; rintro w5 s5; rw [HR.out, HM.out]))
  obtain ⟨g0, g1, g2, g3⟩ := ldIx s5.drew
  have gT := run_loadG agg_mk (vs := m.cells) rfl (St.pick 3 s5.drew).rowAll
  have s7 : St W _ (row w5.heap.size 0 m.cells :: _) := (s5.alloc m.cells.toArray 59).drew
  obtain ⟨d0, d1, d2, d3⟩ := ldIx (St.pick 1 s7)
  have dT := run_loadG agg_mk (vs := m.cells) rfl (St.pick 4 s7).rowAll
  have hv : (w5.alloc (.cells m.cells.toArray 59)).drew.heap[w5.heap.size]? = some (.cells m.cells.toArray 59 (0, 0)) := heap_alloc_new w5 _
  have s8 := s7.perm [2, 0]
  go_region_law (go_simp; go_at_call 202; refine insM_c s8 hv rfl rfl (mk_one _) hrl (by omega) ?_; rintro a9 c9 w9 s9; rw [HP.out] at s9; obtain ⟨k0, k1, k2, k3⟩ := ldIx (St.pick 1 s9))
  all_goals
    go_wp2_with fail
    have sA := (St.pick 1 s9).rowSet (i := 1) (by simp) (.slice a9 (n + 1) c9)
    rw [Nat.zero_add] at sA
    have sB : St W _ (row b 0 [.map (some mp), .slice a9 (n + 1) c9] :: OwnS 3 a9 (n + 1) c9 (mkC (ixPut l m)) :: MapA Value.string mp acts :: row T 0 m.cells :: R) := sA.drew
    clear k0 k1 k2 k3 d0 d1 d2 d3 g0 g1 g2 g3 gT dT
    obtain ⟨e0, _, _, _⟩ := ldIx sB
    obtain ⟨e1, e2⟩ := mkL (St.pick 3 sB)
    obtain ⟨wC, hup, sC⟩ := run_mapUpdate_st (t := 224) strK Tryz.underlying224 (St.pick 2 sB) m.key (Value.agg #[Value.int .i64 m.c, .int .i64 m.s])
    go_region_law (fail)
    all_goals
      go_wp2_with fail
      exact HK.out _ (IdxH.close (IOK.put HO.out m (by rw [HQ.out]; exact HI.out)) (((sC.perm [3]).dropN 1).perm [1]))
end
end Go.Proofs.YtojfjbbggpfijaaGreatDoor
