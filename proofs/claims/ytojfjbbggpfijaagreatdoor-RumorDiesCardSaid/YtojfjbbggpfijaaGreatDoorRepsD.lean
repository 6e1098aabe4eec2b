/- RepsD: several texts, joined. The replica's invariants stay. -/
import Derived.Test.YtojfjbbggpfijaaGreatDoorReps
import Derived.Test.YtojfjbbggpfijaaGreatDoorGraE
import Derived.Test.YtojfjbbggpfijaaGreatDoorOcts
namespace Go.Proofs.YtojfjbbggpfijaaGreatDoor
open Go.RowKit Go.Qd

theorem DskOK.add {D : DskV} (h : DskOK D) (x : List UInt8) : DskOK (D.add x) := by
  unfold DskV.add
  split
  · exact h
  · split
    · exact h
    · split
      · exact h.append _
      · exact (h.append _).sync

theorem ixDrop_len {l : List MkV} (h : IxOK l) (k : ByteArray) : (ixDrop l k).length + (if (ixGet l k).isSome = true then 1 else 0) = l.length := by
  cases hg : ixGet l k with
  | none => rw [ixDrop_out hg]; rfl
  | some m =>
    obtain ⟨h1, h2⟩ := ixGet_some hg
    rw [← ixDrop_del h hg]
    exact delK_len mLt_ord h.srt (hasK_iff.2 ⟨m, h1, rfl⟩)
theorem ixPut_len {l : List MkV} (h : IxOK l) (m : MkV) : (ixPut l m).length + (if (ixGet l m.key).isSome = true then 1 else 0) = l.length + 1 := by
  have := ixDrop_len h m.key
  have h2 : (ixPut l m).length = (ixDrop l m.key).length + 1 := by
    unfold ixPut
    exact putK_len_new mLt_ord (h.drop m.key).srt m (hasK_no.2 fun x hx e => (mem_ixDrop.1 hx).2 (by rw [show x = m from e]))
  omega

namespace RepOK
variable {r : RepV} {e : EnV}
theorem withD {d : DskV} (h : RepOK r) (hd : DskOK d) : RepOK { r with d := d } :=
  ⟨h.tab, h.key, h.len, h.room, h.own, h.ownT, h.ownL, h.ix, h.ixN, h.ixT, h.gr, h.grK, h.grL, h.sum, h.site, h.cnt, hd, h.t1⟩
theorem withC {c : Int} (h : RepOK r) (hc : 0 ≤ c) : RepOK { r with cnt := c } :=
  ⟨h.tab, h.key, h.len, h.room, h.own, h.ownT, h.ownL, h.ix, h.ixN, h.ixT, h.gr, h.grK, h.grL, h.sum, h.site, hc, h.d, h.t1⟩
theorem wrote (h : RepOK r) (e : EnV) : RepOK (r.wrote e) := by
  unfold RepV.wrote
  split
  · have h1 : BSrt (RepV.ownPut r.own e.key) := by
      unfold RepV.ownPut; split
      · exact putK_srt kLt_ord h.own _
      · exact h.own
    have h2 : ∀ p ∈ RepV.ownPut r.own e.key, p.2 = true := by
      unfold RepV.ownPut; split
      · intro p hp
        rcases (mem_putK kLt_ord).1 hp with rfl | ⟨hp, _⟩
        · rfl
        · exact h.ownT p hp
      · exact h.ownT
    have h3 : (RepV.ownPut r.own e.key).length ≤ 4096 := by
      have h0 := h.ownL
      unfold RepV.ownPut
      cases hk : hasK Prod.fst r.own e.key with
      | true => rw [Bool.true_or, if_pos rfl]; exact Nat.le_trans (Nat.le_of_eq (putK_len_old kLt_ord h.own (e.key, true) hk)) h0
      | false =>
        rw [Bool.false_or]
        split
        · rename_i hd
          have hd := of_decide_eq_true hd
          have := putK_len_new kLt_ord h.own (e.key, true) hk
          omega
        · exact h0
    exact ⟨h.tab, h.key, h.len, h.room, h1, h2, h3, h.ix, h.ixN, h.ixT, h.gr, h.grK, h.grL, h.sum, h.site, h.cnt, h.d, h.t1⟩
  · exact h
theorem buried (h : RepOK r) (e : EnV) : RepOK (r.buried e) := by
  have put : ∀ f : EnV, f.key = e.key → (thas r.gr e.key = true ∨ r.gr.length < 4096) → TSrt (tput r.gr e.key f) ∧ (∀ p ∈ tput r.gr e.key f, p.1 = p.2.key) ∧ (tput r.gr e.key f).length ≤ 4096 := by
    intro f hf hc
    refine ⟨putK_srt kLt_ord h.gr _, fun p hp => ?_, ?_⟩
    · rcases (mem_putK kLt_ord).1 hp with rfl | ⟨hp, _⟩
      · exact hf.symm
      · exact h.grK p hp
    · rw [tput_len h.gr]
      have := h.grL
      split
      · exact this
      · rename_i hk
        rcases hc with hc | hc
        · exact absurd hc hk
        · omega
  have all : TSrt (buryT r.site r.t2 r.gr e) ∧ (∀ p ∈ buryT r.site r.t2 r.gr e, p.1 = p.2.key) ∧ (buryT r.site r.t2 r.gr e).length ≤ 4096 := by
    have same := And.intro h.gr (And.intro h.grK h.grL)
    unfold buryT
    split
    · exact same
    · split
      · rename_i hk
        split
        · exact same
        · split
          · exact put _ (tget_key h.gr h.grK hk) (Or.inl hk)
          · exact put _ rfl (Or.inl hk)
      · split
        · rename_i hl; exact put _ rfl (Or.inr hl)
        · exact same
  exact ⟨h.tab, h.key, h.len, h.room, h.own, h.ownT, h.ownL, h.ix, h.ixN, h.ixT, all.1, all.2.1, all.2.2, h.sum, h.site, h.cnt, h.d, h.t1⟩
theorem placed (h : RepOK r) (hr : r.roomB e.key = true) : RepOK (r.placed e) := by
  have hix : IxOK (ixPut r.ix e.mark) := h.ix.put _
  have hN : (ixPut r.ix e.mark).length = (tput r.tab e.key e).length := by
    have h1 := ixPut_len h.ix e.mark
    have h2 := tput_len h.tab e.key e
    have h3 := h.ixT e.key
    have h4 := h.ixN
    rw [show e.mark.key = e.key from rfl, h3] at h1
    rw [h2]
    split at h1 <;> simp_all
  refine ⟨putK_srt kLt_ord h.tab _, fun p hp => ?_, ?_, h.room, h.own, h.ownT, h.ownL, hix, hN, fun k => ?_, h.gr, h.grK, h.grL, Nat.mod_lt _ (by decide), h.site, h.cnt, h.d, h.t1⟩
  · rcases (mem_putK kLt_ord).1 hp with rfl | ⟨hp, _⟩
    · rfl
    · exact h.key p hp
  · show (((tput r.tab e.key e).length : Nat) : Int) ≤ r.room
    have := h.len
    rw [tput_len h.tab]
    unfold RepV.roomB at hr
    split
    · exact this
    · rename_i hk
      rw [Bool.or_eq_true] at hr
      rcases hr with hr | hr
      · exact absurd hr hk
      · have := of_decide_eq_true hr
        omega
  · show (ixGet (ixPut r.ix e.mark) k).isSome = thas (tput r.tab e.key e) k
    rw [ixGet_put h.ix]
    have h3 := h.ixT k
    have h5 : thas (tput r.tab e.key e) k = (decide (e.key = k) || thas r.tab k) := hasK_put kLt_ord h.tab (e.key, e) k
    rw [h5]
    by_cases hk : k = e.key
    · subst hk
      rw [if_pos (show e.key = e.mark.key from rfl)]; simp
    · rw [if_neg (show ¬ k = e.mark.key from hk), h3, decide_eq_false (fun h => hk h.symm)]; rfl
end RepOK
end Go.Proofs.YtojfjbbggpfijaaGreatDoor

/- The replica: set. Printed by mkRepE.py. -/
namespace Go.Proofs.YtojfjbbggpfijaaGreatDoor
open Go.RowKit Go.Qd

section
attribute [local go_sem ↓] execOp_ldAny
variable {W w : World} {R : List HP} {post : Ending → World → Prop} {A : RAd} {r : RepV}

set_option maxRecDepth 100000 in
set_option maxHeartbeats 4000000 in
theorem set_chk {e : EnV} (h : RepOK r) (hc : ¬ checkE e = 0) (st : St W w (RepA A r :: R))
    (K : ∀ w', St W w' (RepA A r :: R) → post (.returned (.int .i64 (checkE e))) w') :
    Calls Tryz.prog 98 #[.pointer (some ⟨A.p, 0, none⟩), .agg e.cells.toArray] w post := by
  have HK := hid K; clear K
  have HH := hid h
  have HC := hid hc
  obtain ⟨c, hcc⟩ : ∃ c, checkE e = c := ⟨_, rfl⟩
  have HX := hid hcc
  have hb : (c != 0) = true := by rw [← hcc]; simp [hc]
  have HK2 : Hid (∀ w', St W w' (RepA A r :: R) → post (.returned (.int .i64 c)) w') := hid (by rw [← hcc]; exact HK.out)
  clear hc hcc HK
  clear h
  go_enter Tryz.func98, Tryz.ntmps98
  go_wp2_with (first
    | (refine wpl_boxA (vs := e.cells) rfl (.tmp 1) rfl rfl st ?_; rintro T w1 s1; have lT := run_loadG agg_en (vs := e.cells) rfl s1.rowAll)
    | (go_at_call 152; refine encode_no HC.out s1 ?_; rintro w2 s2; rw [HX.out]))
  exact HK2.out _ s2.drop

set_option maxRecDepth 100000 in
set_option maxHeartbeats 4000000 in
theorem set_add {e : EnV} (h : RepOK r) (hc : checkE e = 0) (ha : ¬ r.d.addW (encE e) = 0) (st : St W w (RepA A r :: R))
    (K : ∀ w', St W w' (RepA A { r with d := r.d.add (encE e) } :: R) → post (.returned (.int .i64 (r.d.addW (encE e)))) w') :
    Calls Tryz.prog 98 #[.pointer (some ⟨A.p, 0, none⟩), .agg e.cells.toArray] w post := by
  have HK := hid K; clear K
  have HH := hid h
  have HL : Hid (1 ≤ (encE e).length ∧ (encE e).length ≤ 512) := hid (by obtain ⟨g1, g2, g3, _⟩ := checkE_ok hc; rw [encE_len]; omega)
  have HC := hid hc
  obtain ⟨q, hq⟩ : ∃ q : RepV, q = { r with d := r.d.add (encE e) } := ⟨_, rfl⟩
  have HQ := hid hq
  obtain ⟨c, hcc⟩ : ∃ c, r.d.addW (encE e) = c := ⟨_, rfl⟩
  have HX := hid hcc
  have hb : (c != 0) = true := by rw [← hcc]; simp [ha]
  have HK2 : Hid (∀ w', St W w' (RepA A q :: R) → post (.returned (.int .i64 c)) w') := hid (by rw [← hcc, hq]; exact HK.out)
  clear hc ha hcc hq HK
  clear h
  go_enter Tryz.func98, Tryz.ntmps98
  go_wp2_with (first
    | (refine wpl_boxA (vs := e.cells) rfl (.tmp 1) rfl rfl st ?_; rintro T w1 s1; have lT := run_loadG agg_en (vs := e.cells) rfl s1.rowAll)
    | (go_at_call 152; refine encode_c HC.out s1 ?_; rintro a n c w2 - s2; have s3 : St W w2 (RepA A r :: OwnS 1 a n c (byC (encE e)) :: row T 0 e.cells :: R) := St.pick 2 s2; have l11 := (repLd s3).2.2.2.2.2)
    | (go_at_call 153; refine jadd_c HH.out.d HL.out.1 HL.out.2 OwnS.rds ((RepA.open.1 s3).perm [7, 7, 7]) ?_; rintro w4 s4; rw [HX.out]; have s5 : St W w4 (RepA A q :: OwnS 1 a n c (byC (encE e)) :: row T 0 e.cells :: R) := (by rw [HQ.out]; exact RepA.open.2 (s4.perm [3, 3, 3, 3, 3, 3, 3, 0, 0])); have mT := run_loadG agg_en (vs := e.cells) rfl (St.pick 2 s5).rowAll))
  exact HK2.out _ ((s5.perm [1, 1]).dropN 2)

set_option maxRecDepth 100000 in
set_option maxHeartbeats 4000000 in
theorem set_in {e : EnV} (h : RepOK r) (hc : checkE e = 0) (ha : r.d.addW (encE e) = 0) (st : St W w (RepA A r :: R))
    (K : ∀ w', St W w' (RepA A (if r.roomB e.key = true then (({ r with d := r.d.add (encE e) }.wrote e).buried e).placed e else ({ r with d := r.d.add (encE e) }.wrote e).buried e) :: R) → post (.returned (.int .i64 (if r.roomB e.key = true then 0 else 7))) w') :
    Calls Tryz.prog 98 #[.pointer (some ⟨A.p, 0, none⟩), .agg e.cells.toArray] w post := by
  have HK := hid K; clear K
  have HH := hid h
  have HL : Hid (1 ≤ (encE e).length ∧ (encE e).length ≤ 512) := hid (by obtain ⟨g1, g2, g3, _⟩ := checkE_ok hc; rw [encE_len]; omega)
  have HC := hid hc
  obtain ⟨q, hq⟩ : ∃ q : RepV, q = { r with d := r.d.add (encE e) } := ⟨_, rfl⟩
  have HQ := hid hq
  have HX := hid ha
  have hqo : RepOK q := by rw [hq]; exact h.withD (h.d.add _)
  obtain ⟨p, hp⟩ : ∃ p : RepV, q.wrote e = p := ⟨_, rfl⟩
  have hpo : RepOK p := by rw [← hp]; exact hqo.wrote e
  obtain ⟨b, hb⟩ : ∃ b : RepV, p.buried e = b := ⟨_, rfl⟩
  have hbo : RepOK b := by rw [← hb]; exact hpo.buried e
  have hrm : r.roomB e.key = b.roomB e.key := by
    subst hb; subst hp; subst hq
    unfold RepV.buried RepV.wrote
    split <;> rfl
  have HK2 : Hid (∀ w', St W w' (RepA A (if b.roomB e.key = true then b.placed e else b) :: R) → post (.returned (.int .i64 (if b.roomB e.key = true then 0 else 7))) w') := hid (by rw [← hb, ← hp, hq] at *; rw [← hrm]; exact HK.out)
  obtain ⟨z, hz⟩ : ∃ z : Int, (if b.roomB e.key = true then 0 else 7) = z := ⟨_, rfl⟩
  have HK3 := HK2.out
  rw [hz] at HK3
  have HZ := hid hz
  have HK4 := hid HK3
  clear hz HK3 HK2
  have HQO := hid hqo; have HPO := hid hpo; have HBO := hid hbo; have HP := hid hp; have HB := hid hb
  clear hc ha hq hqo hp hpo hb hbo hrm HK
  clear h
  go_enter Tryz.func98, Tryz.ntmps98
  go_wp2_with (first
    | (refine wpl_boxA (vs := e.cells) rfl (.tmp 1) rfl rfl st ?_; rintro T w1 s1; have lT := run_loadG agg_en (vs := e.cells) rfl s1.rowAll)
    | (go_at_call 152; refine encode_c HC.out s1 ?_; rintro a n c w2 - s2; have s3 : St W w2 (RepA A r :: OwnS 1 a n c (byC (encE e)) :: row T 0 e.cells :: R) := St.pick 2 s2; have l11 := (repLd s3).2.2.2.2.2)
    | (go_at_call 153; refine jadd_c HH.out.d HL.out.1 HL.out.2 OwnS.rds ((RepA.open.1 s3).perm [7, 7, 7]) ?_; rintro w4 s4; rw [HX.out]; have s5 : St W w4 (RepA A q :: OwnS 1 a n c (byC (encE e)) :: row T 0 e.cells :: R) := (by rw [HQ.out]; exact RepA.open.2 (s4.perm [3, 3, 3, 3, 3, 3, 3, 0, 0])); have mT := run_loadG agg_en (vs := e.cells) rfl (St.pick 2 s5).rowAll)
    | (go_at_call 117; refine wrote_c HQO.out s5 ?_; rintro w6 s6; rw [HP.out] at s6))
  try simp only [Act.put, List.setIfInBounds_toArray, List.set_cons_succ, List.set_cons_zero]
  have hN_s7 : Nonempty (Cls (fun w' => St W w' (RepA A p :: OwnS 1 a n c (byC (encE e)) :: row T 0 e.cells :: R))) := Cls.inh s6
  have f10_s7 := fun s : Cls (fun w' => St W w' (RepA A p :: OwnS 1 a n c (byC (encE e)) :: row T 0 e.cells :: R)) => (repLd s.h).2.2.2.2.1
  have gT_s7 := fun s : Cls (fun w' => St W w' (RepA A p :: OwnS 1 a n c (byC (encE e)) :: row T 0 e.cells :: R)) => run_loadG agg_en (vs := e.cells) rfl (St.pick 2 s.h).rowAll
  refine wp_region_class_tail (fun w' => St W w' (RepA A p :: OwnS 1 a n c (byC (encE e)) :: row T 0 e.cells :: R)) 5 (by kernel_rfl) (by kernel_rfl) (St.drew s6) ?_
  simp only [List.take_succ_cons, List.take_zero, List.drop_succ_cons, List.drop_zero]
  repeat (go_big_quiet_step ((fail)))
  clear hN_s7 f10_s7 gT_s7
  refine wpQuiet_nil ?_
  rintro ⟨w7, s7⟩
  dsimp only
  go_wp2_with (first
    | (go_at_call 118; refine bury_c HPO.out.site HPO.out.gr HPO.out.grL HPO.out.grK ((RepA.open.1 s7).perm [5, 5]) ?_; rintro v8 w8 s8; have s9 : St W w8 (RepA A b :: OwnS 1 a n c (byC (encE e)) :: row T 0 e.cells :: R) := (by rw [← HB.out]; exact RepA.open.2 (s8.perm [2, 2, 2, 2, 2, 0, 0])); have nT := run_loadG agg_en (vs := e.cells) rfl (St.pick 2 s9).rowAll)
    | (go_at_call 120; refine rplace_c HBO.out s9 ?_; rintro wa sa; rw [HZ.out]))
  exact HK4.out _ ((sa.perm [1, 1]).dropN 2)

/-- An entry is set down. -/
theorem set_c {e : EnV} (h : RepOK r) (st : St W w (RepA A r :: R))
    (K : ∀ w', St W w' (RepA A (r.set e) :: R) → post (.returned (.int .i64 (r.setW e))) w') :
    Calls Tryz.prog 98 #[.pointer (some ⟨A.p, 0, none⟩), .agg e.cells.toArray] w post := by
  unfold RepV.set RepV.setW at K
  by_cases hc : checkE e = 0
  · have hc' : ¬ checkE e ≠ 0 := fun x => x hc
    rw [if_neg hc', if_neg hc'] at K
    by_cases ha : r.d.addW (encE e) = 0
    · have ha' : ¬ r.d.addW (encE e) ≠ 0 := fun x => x ha
      rw [if_neg ha', if_neg ha'] at K
      exact set_in h hc ha st K
    · rw [if_pos ha, if_pos ha] at K
      exact set_add h hc ha st K
  · rw [if_pos hc, if_pos hc] at K
    exact set_chk h hc st K
end
end Go.Proofs.YtojfjbbggpfijaaGreatDoor

/- The replica: the age of an entry that comes in. Printed by mkRepF.py. -/
namespace Go.Proofs.YtojfjbbggpfijaaGreatDoor
open Go.RowKit Go.Qd

section
attribute [local go_sem ↓] execOp_ldAny
variable {W w : World} {R : List HP} {post : Ending → World → Prop} {A : RAd} {r : RepV}

theorem repT1 (s : St W w (RepA A r :: R)) : (loadG 3 (.pointer (some ⟨A.p, 3, none⟩))).run Tryz.prog w = .ok (.int .i64 r.t1) w := run_ldP (by kernel_rfl) (repRow (RepA.open.1 s) 3 _ rfl)

/-- The age's cell of an entry in a box. -/
theorem ageCell {T : Nat} {e : EnV} (s : St W w (row T 0 e.cells :: R)) : w.cell? ⟨T, 8, none⟩ = some (.int .i64 e.age) ∧ w.frozen? ⟨T, 8, none⟩ = false ∧ ∀ m : Int, St W (w.setCell ⟨T, 8, none⟩ (.int .i64 m)) (row T 0 ({ e with age := m } : EnV).cells :: R) := by
  refine ⟨?_, ?_, fun m => ?_⟩
  · have := s.rowCell (i := 8) (v := .int .i64 e.age) rfl; rwa [Nat.zero_add] at this
  · have := s.rowFree (i := 8) (by simp [EnV.cells]); rwa [Nat.zero_add] at this
  · have := s.rowSet (i := 8) (by simp [EnV.cells]) (.int .i64 m); rwa [Nat.zero_add] at this

set_option maxRecDepth 100000 in
set_option maxHeartbeats 2000000 in
theorem aged_live {e x : EnV} (hd : e.dead = false) (st : St W w (RepA A r :: R))
    (K : ∀ w', St W w' (RepA A r :: R) → post (.returned (.agg (r.aged e x).cells.toArray)) w') :
    Calls Tryz.prog 139 #[.pointer (some ⟨A.p, 0, none⟩), .agg e.cells.toArray, .agg x.cells.toArray] w post := by
  have hv : r.aged e x = e := by unfold RepV.aged RepV.agedV; rw [if_pos hd]
  rw [hv] at K
  clear hv
  have HD := hid hd; clear hd
  have HK := hid K; clear K
  go_enter Tryz.func139, Tryz.ntmps139
  go_wp2_with (first
    | (refine wpl_boxA (vs := e.cells) rfl (.tmp 1) rfl rfl st ?_; rintro T w1 s1)
    | (refine wpl_boxA (vs := x.cells) rfl (.tmp 2) rfl rfl s1 ?_; rintro U w2 s2)
    | (refine wpl_allocA rfl rfl zero_en s2 ?_; rintro V w3 s3; have gd := (enL (St.pick 2 s3)).2.2.1; rw [HD.out] at gd; have gt := repT1 (St.pick 3 s3); have gx := (enL (St.pick 1 s3)).2.2.1; have gT := run_loadG agg_en (vs := e.cells) rfl (St.pick 2 s3).rowAll; have sL := s3)
    | (refine wpl_storeA (vs := e.cells) rfl (.tmp 6) (.tmp 11) (by rfl) agg_en (by rfl) (by rfl) rfl (env_one _) sL rfl ?_; rintro w9 s9))
  have hL := run_loadA agg_en (vs := e.cells) rfl s9.rowAll
  exact bodyPost_ret (v := .agg (e.cells).toArray) (by simp [results, Tryz.results139, asAddr, hL, Act.put]) rfl (HK.out _ (s9.dropN 3))

set_option maxRecDepth 100000 in
set_option maxHeartbeats 2000000 in
theorem aged_none {e x : EnV} (hd : e.dead = true) (ht : r.t1 = 0) (st : St W w (RepA A r :: R))
    (K : ∀ w', St W w' (RepA A r :: R) → post (.returned (.agg (r.aged e x).cells.toArray)) w') :
    Calls Tryz.prog 139 #[.pointer (some ⟨A.p, 0, none⟩), .agg e.cells.toArray, .agg x.cells.toArray] w post := by
  have hn : ¬ e.dead = false := by rw [hd]; decide
  have hv : r.aged e x = { e with age := 0 } := by unfold RepV.aged RepV.agedV; rw [if_neg hn, if_pos ht]
  rw [hv] at K
  have hb : (r.t1 == 0) = true := by rw [ht]; rfl
  clear hv hn ht
  have HD := hid hd; clear hd
  have HK := hid K; clear K
  go_enter Tryz.func139, Tryz.ntmps139
  go_wp2_with (first
    | (refine wpl_boxA (vs := e.cells) rfl (.tmp 1) rfl rfl st ?_; rintro T w1 s1)
    | (refine wpl_boxA (vs := x.cells) rfl (.tmp 2) rfl rfl s1 ?_; rintro U w2 s2)
    | (refine wpl_allocA rfl rfl zero_en s2 ?_; rintro V w3 s3; have gd := (enL (St.pick 2 s3)).2.2.1; rw [HD.out] at gd; have gt := repT1 (St.pick 3 s3); have gx := (enL (St.pick 1 s3)).2.2.1; obtain ⟨k8, f8, s4f⟩ := ageCell (St.pick 2 s3); have g8 := (enL (St.pick 2 s3)).2.2.2.2.2.2.1; have s4 := s4f 0; have gT := run_loadG agg_en (vs := ({ e with age := 0 } : EnV).cells) rfl s4.rowAll; have ux := (enL (St.pick 2 s4)).2.2.1; have sL := St.pick 1 s4)
    | (refine wpl_storeA (vs := ({ e with age := 0 } : EnV).cells) rfl (.tmp 6) (.tmp 20) (by rfl) agg_en (by rfl) (by rfl) rfl (env_one _) sL rfl ?_; rintro w9 s9))
  have hL := run_loadA agg_en (vs := ({ e with age := 0 } : EnV).cells) rfl s9.rowAll
  exact bodyPost_ret (v := .agg (({ e with age := 0 } : EnV).cells).toArray) (by simp [results, Tryz.results139, asAddr, hL, Act.put]) rfl (HK.out _ (s9.dropN 3))

set_option maxRecDepth 100000 in
set_option maxHeartbeats 2000000 in
theorem aged_one {e x : EnV} (hd : e.dead = true) (ht : ¬ r.t1 = 0) (hx : x.dead = false) (ha : 0 ≤ e.age ∧ e.age ≤ 2147483647) (st : St W w (RepA A r :: R))
    (K : ∀ w', St W w' (RepA A r :: R) → post (.returned (.agg (r.aged e x).cells.toArray)) w') :
    Calls Tryz.prog 139 #[.pointer (some ⟨A.p, 0, none⟩), .agg e.cells.toArray, .agg x.cells.toArray] w post := by
  have hn : ¬ e.dead = false := by rw [hd]; decide
  have hv : r.aged e x = { e with age := e.age + 1 } := by unfold RepV.aged RepV.agedV; rw [if_neg hn, if_neg ht, if_neg (by rw [hx]; decide)]
  rw [hv] at K
  have hw : IntKind.i64.wrap (e.age + 1) = e.age + 1 := IntWalk.i64_in _ (by omega)
  have hb : (r.t1 == 0) = false := by simp [ht]
  clear hv hn ht ha
  have HD := hid hd; clear hd
  have HX := hid hx; clear hx
  have HK := hid K; clear K
  go_enter Tryz.func139, Tryz.ntmps139
  go_wp2_with (first
    | (refine wpl_boxA (vs := e.cells) rfl (.tmp 1) rfl rfl st ?_; rintro T w1 s1)
    | (refine wpl_boxA (vs := x.cells) rfl (.tmp 2) rfl rfl s1 ?_; rintro U w2 s2)
    | (refine wpl_allocA rfl rfl zero_en s2 ?_; rintro V w3 s3; have gd := (enL (St.pick 2 s3)).2.2.1; rw [HD.out] at gd; have gt := repT1 (St.pick 3 s3); have gx := (enL (St.pick 1 s3)).2.2.1; obtain ⟨k8, f8, s4f⟩ := ageCell (St.pick 2 s3); have g8 := (enL (St.pick 2 s3)).2.2.2.2.2.2.1; have s4 := s4f (e.age + 1); have gT := run_loadG agg_en (vs := ({ e with age := e.age + 1 } : EnV).cells) rfl s4.rowAll; have ux := (enL (St.pick 2 s4)).2.2.1; rw [HX.out] at ux; have sL := St.pick 1 s4)
    | (refine wpl_storeA (vs := ({ e with age := e.age + 1 } : EnV).cells) rfl (.tmp 6) (.tmp 33) (by rfl) agg_en (by rfl) (by rfl) rfl (env_one _) sL rfl ?_; rintro w9 s9))
  have hL := run_loadA agg_en (vs := ({ e with age := e.age + 1 } : EnV).cells) rfl s9.rowAll
  exact bodyPost_ret (v := .agg (({ e with age := e.age + 1 } : EnV).cells).toArray) (by simp [results, Tryz.results139, asAddr, hL, Act.put]) rfl (HK.out _ (s9.dropN 3))

set_option maxRecDepth 100000 in
set_option maxHeartbeats 2000000 in
theorem aged_both {e x : EnV} (hd : e.dead = true) (ht : ¬ r.t1 = 0) (hx : x.dead = true) (ha : 0 ≤ e.age ∧ e.age ≤ 2147483647) (st : St W w (RepA A r :: R))
    (K : ∀ w', St W w' (RepA A r :: R) → post (.returned (.agg (r.aged e x).cells.toArray)) w') :
    Calls Tryz.prog 139 #[.pointer (some ⟨A.p, 0, none⟩), .agg e.cells.toArray, .agg x.cells.toArray] w post := by
  have hn : ¬ e.dead = false := by rw [hd]; decide
  obtain ⟨m, hm⟩ : ∃ m, min (e.age + 1) x.age = m := ⟨_, rfl⟩
  have hv : r.aged e x = { e with age := m } := by unfold RepV.aged RepV.agedV; rw [if_neg hn, if_neg ht, if_pos hx, ← hm, Int.min_def]
  rw [hv] at K
  have HM := hid hm
  have hw : IntKind.i64.wrap (e.age + 1) = e.age + 1 := IntWalk.i64_in _ (by omega)
  have hb : (r.t1 == 0) = false := by simp [ht]
  clear hv hn ht ha hm
  have HD := hid hd; clear hd
  have HX := hid hx; clear hx
  have HK := hid K; clear K
  go_enter Tryz.func139, Tryz.ntmps139
  go_wp2_with (first
    | (refine wpl_boxA (vs := e.cells) rfl (.tmp 1) rfl rfl st ?_; rintro T w1 s1)
    | (refine wpl_boxA (vs := x.cells) rfl (.tmp 2) rfl rfl s1 ?_; rintro U w2 s2)
    | (refine wpl_allocA rfl rfl zero_en s2 ?_; rintro V w3 s3; have gd := (enL (St.pick 2 s3)).2.2.1; rw [HD.out] at gd; have gt := repT1 (St.pick 3 s3); have gx := (enL (St.pick 1 s3)).2.2.1; obtain ⟨k8, f8, s4f⟩ := ageCell (St.pick 2 s3); have g8 := (enL (St.pick 2 s3)).2.2.2.2.2.2.1; have s4 := s4f (e.age + 1); have gT := run_loadG agg_en (vs := ({ e with age := e.age + 1 } : EnV).cells) rfl s4.rowAll; have ux := (enL (St.pick 2 s4)).2.2.1; rw [HX.out] at ux; have h8 := (enL s4).2.2.2.2.2.2.1; have u8 := (enL (St.pick 2 s4)).2.2.2.2.2.2.1; obtain ⟨k9, f9, s5f⟩ := ageCell s4; have s5 := s5f m; have mT := run_loadG agg_en (vs := ({ e with age := m } : EnV).cells) rfl s5.rowAll; have sL := St.pick 1 s5)
    | (refine wpl_min rfl (.tmp 28) (.tmp 30) rfl rfl rfl ?_; rw [HM.out])
    | (refine wpl_storeA (vs := ({ e with age := m } : EnV).cells) rfl (.tmp 6) (.tmp 33) (by rfl) agg_en (by rfl) (by rfl) rfl (env_one _) sL rfl ?_; rintro w9 s9))
  have hL := run_loadA agg_en (vs := ({ e with age := m } : EnV).cells) rfl s9.rowAll
  exact bodyPost_ret (v := .agg (({ e with age := m } : EnV).cells).toArray) (by simp [results, Tryz.results139, asAddr, hL]) rfl (HK.out _ (s9.dropN 3))

/-- An entry of the age that it has when it comes in. -/
theorem aged_c {e x : EnV} (ha : e.dead = true → 0 ≤ e.age ∧ e.age ≤ 2147483647) (st : St W w (RepA A r :: R))
    (K : ∀ w', St W w' (RepA A r :: R) → post (.returned (.agg (r.aged e x).cells.toArray)) w') :
    Calls Tryz.prog 139 #[.pointer (some ⟨A.p, 0, none⟩), .agg e.cells.toArray, .agg x.cells.toArray] w post := by
  cases hd : e.dead with
  | false => exact aged_live hd st K
  | true =>
    by_cases ht : r.t1 = 0
    · exact aged_none hd ht st K
    · cases hx : x.dead with
      | false => exact aged_one hd ht hx (ha hd) st K
      | true => exact aged_both hd ht hx (ha hd) st K
end
end Go.Proofs.YtojfjbbggpfijaaGreatDoor

/- Entries: Wake. Printed by mkEntB.py. -/
namespace Go.Proofs.YtojfjbbggpfijaaGreatDoor
open Go.RowKit Go.Qd RepV

section
attribute [local go_sem ↓] execOp_ldAny
variable {W w : World} {R : List HP} {post : Ending → World → Prop}

set_option maxRecDepth 100000 in
set_option maxHeartbeats 2000000 in
theorem ewake_chk {e : EnV} {c s : Int} {x : Int} (hc : checkE e = x) (h0 : ¬ x = 0) (st : St W w R)
    (K : ∀ w', St W w' R → post (.returned (.tuple #[.agg (EnV.zero).cells.toArray, .int .i64 x])) w') :
    Calls Tryz.prog 175 #[.agg e.cells.toArray, .agg [Value.int .i64 c, .int .i64 s].toArray] w post := by
  have HK := hid K; clear K
  have HX := hid hc
  have hb : (x != 0) = true := by simp [h0]
  clear hc h0
  go_enter Tryz.func175, Tryz.ntmps175
  go_wp2_with (first
    | (refine wpl_boxA (vs := e.cells) rfl (.tmp 0) rfl rfl st ?_; rintro T w1 s1)
    | (refine wpl_boxA (vs := [.int .i64 c, .int .i64 s]) rfl (.tmp 1) rfl rfl s1 ?_; rintro S w2 s2)
    | (refine wpl_allocA rfl rfl zero_en s2 ?_; rintro V w3 s3; have gT := run_loadG agg_en (vs := e.cells) rfl (St.pick 2 s3).rowAll)
    | (go_at_call 50; refine check_c s3 ?_; rintro w4 s4; rw [HX.out]; have gd := (enL (St.pick 2 s4)).2.2.1;  have gS := run_loadG agg_st (vs := [.int .i64 c, .int .i64 s]) rfl (St.pick 1 s4).rowAll; have gA := (enL (St.pick 2 s4)).2.2.2.2.1)
    | (refine wpl_build rfl rfl (v := .agg EnV.zero.cells.toArray) (by kernel_rfl) ?_)
    | (refine wpl_storeA (vs := (EnV.zero).cells) rfl (.tmp 4) (.tmp 11) (by rfl) agg_en (by rfl) (by rfl) rfl (env_one _) s4 rfl ?_; rintro w9 s9))
  have hL := run_loadA agg_en (vs := (EnV.zero).cells) rfl s9.rowAll
  exact bodyPost_ret (v := .tuple #[.agg (EnV.zero).cells.toArray, .int .i64 x]) (by simp [results, Tryz.results175, asAddr, hL]) rfl (HK.out _ (s9.dropN 3))

set_option maxRecDepth 100000 in
set_option maxHeartbeats 2000000 in
theorem ewake_live {e : EnV} {c s : Int} (hc : checkE e = 0) (hd : e.dead = false) (st : St W w R)
    (K : ∀ w', St W w' R → post (.returned (.tuple #[.agg (EnV.zero).cells.toArray, .int .i64 1])) w') :
    Calls Tryz.prog 175 #[.agg e.cells.toArray, .agg [Value.int .i64 c, .int .i64 s].toArray] w post := by
  have HK := hid K; clear K
  have HX := hid hc
  have HD := hid hd
  clear hc hd
  go_enter Tryz.func175, Tryz.ntmps175
  go_wp2_with (first
    | (refine wpl_boxA (vs := e.cells) rfl (.tmp 0) rfl rfl st ?_; rintro T w1 s1)
    | (refine wpl_boxA (vs := [.int .i64 c, .int .i64 s]) rfl (.tmp 1) rfl rfl s1 ?_; rintro S w2 s2)
    | (refine wpl_allocA rfl rfl zero_en s2 ?_; rintro V w3 s3; have gT := run_loadG agg_en (vs := e.cells) rfl (St.pick 2 s3).rowAll)
    | (go_at_call 50; refine check_c s3 ?_; rintro w4 s4; rw [HX.out]; have gd := (enL (St.pick 2 s4)).2.2.1; rw [HD.out] at gd; have gS := run_loadG agg_st (vs := [.int .i64 c, .int .i64 s]) rfl (St.pick 1 s4).rowAll; have gA := (enL (St.pick 2 s4)).2.2.2.2.1)
    | (refine wpl_build rfl rfl (v := .agg EnV.zero.cells.toArray) (by kernel_rfl) ?_)
    | (refine wpl_storeA (vs := (EnV.zero).cells) rfl (.tmp 4) (.tmp 28) (by rfl) agg_en (by rfl) (by rfl) rfl (env_one _) s4 rfl ?_; rintro w9 s9))
  have hL := run_loadA agg_en (vs := (EnV.zero).cells) rfl s9.rowAll
  exact bodyPost_ret (v := .tuple #[.agg (EnV.zero).cells.toArray, .int .i64 1]) (by simp [results, Tryz.results175, asAddr, hL]) rfl (HK.out _ (s9.dropN 3))

set_option maxRecDepth 100000 in
set_option maxHeartbeats 2000000 in
theorem ewake_bad {e : EnV} {c s : Int} (hc : checkE e = 0) (hd : e.dead = true) (hg : stampB c s = false) (st : St W w R)
    (K : ∀ w', St W w' R → post (.returned (.tuple #[.agg (EnV.zero).cells.toArray, .int .i64 1])) w') :
    Calls Tryz.prog 175 #[.agg e.cells.toArray, .agg [Value.int .i64 c, .int .i64 s].toArray] w post := by
  have HK := hid K; clear K
  have HX := hid hc
  have HD := hid hd
  clear hc hd
  have HG := hid hg
  clear hg
  go_enter Tryz.func175, Tryz.ntmps175
  go_wp2_with (first
    | (refine wpl_boxA (vs := e.cells) rfl (.tmp 0) rfl rfl st ?_; rintro T w1 s1)
    | (refine wpl_boxA (vs := [.int .i64 c, .int .i64 s]) rfl (.tmp 1) rfl rfl s1 ?_; rintro S w2 s2)
    | (refine wpl_allocA rfl rfl zero_en s2 ?_; rintro V w3 s3; have gT := run_loadG agg_en (vs := e.cells) rfl (St.pick 2 s3).rowAll)
    | (go_at_call 50; refine check_c s3 ?_; rintro w4 s4; rw [HX.out]; have gd := (enL (St.pick 2 s4)).2.2.1; rw [HD.out] at gd; have gS := run_loadG agg_st (vs := [.int .i64 c, .int .i64 s]) rfl (St.pick 1 s4).rowAll; have gA := (enL (St.pick 2 s4)).2.2.2.2.1)
    | (go_at_call 99; refine stampGood_c s4 ?_; rintro w5 s5; rw [HG.out]; have gS5 := run_loadG agg_st (vs := [.int .i64 c, .int .i64 s]) rfl (St.pick 1 s5).rowAll; have gA5 := (enL (St.pick 2 s5)).2.2.2.2.1)
    | (refine wpl_build rfl rfl (v := .agg EnV.zero.cells.toArray) (by kernel_rfl) ?_)
    | (refine wpl_storeA (vs := (EnV.zero).cells) rfl (.tmp 4) (.tmp 28) (by rfl) agg_en (by rfl) (by rfl) rfl (env_one _) s5 rfl ?_; rintro w9 s9))
  have hL := run_loadA agg_en (vs := (EnV.zero).cells) rfl s9.rowAll
  exact bodyPost_ret (v := .tuple #[.agg (EnV.zero).cells.toArray, .int .i64 1]) (by simp [results, Tryz.results175, asAddr, hL]) rfl (HK.out _ (s9.dropN 3))

set_option maxRecDepth 100000 in
set_option maxHeartbeats 2000000 in
theorem ewake_old {e : EnV} {c s : Int} {y : Int} (hc : checkE e = 0) (hd : e.dead = true) (hg : stampB c s = true) (hy : cmpS c s e.ac e.az = y) (hl : decide (y ≤ 0) = true) (st : St W w R)
    (K : ∀ w', St W w' R → post (.returned (.tuple #[.agg (EnV.zero).cells.toArray, .int .i64 1])) w') :
    Calls Tryz.prog 175 #[.agg e.cells.toArray, .agg [Value.int .i64 c, .int .i64 s].toArray] w post := by
  have HK := hid K; clear K
  have HX := hid hc
  have HD := hid hd
  clear hc hd
  have HG := hid hg
  have HY := hid hy
  clear hg hy
  go_enter Tryz.func175, Tryz.ntmps175
  go_wp2_with (first
    | (refine wpl_boxA (vs := e.cells) rfl (.tmp 0) rfl rfl st ?_; rintro T w1 s1)
    | (refine wpl_boxA (vs := [.int .i64 c, .int .i64 s]) rfl (.tmp 1) rfl rfl s1 ?_; rintro S w2 s2)
    | (refine wpl_allocA rfl rfl zero_en s2 ?_; rintro V w3 s3; have gT := run_loadG agg_en (vs := e.cells) rfl (St.pick 2 s3).rowAll)
    | (go_at_call 50; refine check_c s3 ?_; rintro w4 s4; rw [HX.out]; have gd := (enL (St.pick 2 s4)).2.2.1; rw [HD.out] at gd; have gS := run_loadG agg_st (vs := [.int .i64 c, .int .i64 s]) rfl (St.pick 1 s4).rowAll; have gA := (enL (St.pick 2 s4)).2.2.2.2.1)
    | (go_at_call 99; refine stampGood_c s4 ?_; rintro w5 s5; rw [HG.out]; have gS5 := run_loadG agg_st (vs := [.int .i64 c, .int .i64 s]) rfl (St.pick 1 s5).rowAll; have gA5 := (enL (St.pick 2 s5)).2.2.2.2.1)
    | (go_at_call 100; refine cmpS_c s5 ?_; rintro w6 s6; rw [HY.out]; have gS6 := run_loadG agg_st (vs := [.int .i64 c, .int .i64 s]) rfl (St.pick 1 s6).rowAll)
    | (refine wpl_build rfl rfl (v := .agg EnV.zero.cells.toArray) (by kernel_rfl) ?_)
    | (refine wpl_storeA (vs := (EnV.zero).cells) rfl (.tmp 4) (.tmp 28) (by rfl) agg_en (by rfl) (by rfl) rfl (env_one _) s6 rfl ?_; rintro w9 s9))
  have hL := run_loadA agg_en (vs := (EnV.zero).cells) rfl s9.rowAll
  exact bodyPost_ret (v := .tuple #[.agg (EnV.zero).cells.toArray, .int .i64 1]) (by simp [results, Tryz.results175, asAddr, hL]) rfl (HK.out _ (s9.dropN 3))

set_option maxRecDepth 100000 in
set_option maxHeartbeats 2000000 in
theorem ewake_ok {e : EnV} {c s : Int} {y : Int} (hc : checkE e = 0) (hd : e.dead = true) (hg : stampB c s = true) (hy : cmpS c s e.ac e.az = y) (hl : decide (y ≤ 0) = false) (st : St W w R)
    (K : ∀ w', St W w' R → post (.returned (.tuple #[.agg (wakeE e c s).cells.toArray, .int .i64 0])) w') :
    Calls Tryz.prog 175 #[.agg e.cells.toArray, .agg [Value.int .i64 c, .int .i64 s].toArray] w post := by
  have HK := hid K; clear K
  have HX := hid hc
  have HD := hid hd
  clear hc hd
  have HG := hid hg
  have HY := hid hy
  clear hg hy
  go_enter Tryz.func175, Tryz.ntmps175
  go_wp2_with (first
    | (refine wpl_boxA (vs := e.cells) rfl (.tmp 0) rfl rfl st ?_; rintro T w1 s1)
    | (refine wpl_boxA (vs := [.int .i64 c, .int .i64 s]) rfl (.tmp 1) rfl rfl s1 ?_; rintro S w2 s2)
    | (refine wpl_allocA rfl rfl zero_en s2 ?_; rintro V w3 s3; have gT := run_loadG agg_en (vs := e.cells) rfl (St.pick 2 s3).rowAll)
    | (go_at_call 50; refine check_c s3 ?_; rintro w4 s4; rw [HX.out]; have gd := (enL (St.pick 2 s4)).2.2.1; rw [HD.out] at gd; have gS := run_loadG agg_st (vs := [.int .i64 c, .int .i64 s]) rfl (St.pick 1 s4).rowAll; have gA := (enL (St.pick 2 s4)).2.2.2.2.1)
    | (go_at_call 99; refine stampGood_c s4 ?_; rintro w5 s5; rw [HG.out]; have gS5 := run_loadG agg_st (vs := [.int .i64 c, .int .i64 s]) rfl (St.pick 1 s5).rowAll; have gA5 := (enL (St.pick 2 s5)).2.2.2.2.1)
    | (go_at_call 100; refine cmpS_c s5 ?_; rintro w6 s6; rw [HY.out]; have gS6 := run_loadG agg_st (vs := [.int .i64 c, .int .i64 s]) rfl (St.pick 1 s6).rowAll)
    | (refine wpl_storeP (vs := [.int .i64 c, .int .i64 s]) rfl (.tmp 30) (.tmp 29) 5 (by rfl) agg_st (by rfl) (by rfl) rfl (st_one _ _) (St.pick 2 s6) (by simp [EnV.cells]) ?_; rintro w7 s7; have s7 : St W w7 (row T 0 ({ e with ac := c, az := s } : EnV).cells :: row V 0 EnV.zero.cells :: row S 0 [.int .i64 c, .int .i64 s] :: R) := s7; obtain ⟨k8, f8, s8f⟩ := ageCell s7; have s8 := s8f 0; have mT := run_loadG agg_en (vs := (wakeE e c s).cells) rfl s8.rowAll)
    | (refine wpl_storeA (vs := (wakeE e c s).cells) rfl (.tmp 4) (.tmp 32) (by rfl) agg_en (by rfl) (by rfl) rfl (env_one _) (St.pick 1 s8) rfl ?_; rintro w9 s9))
  have hL := run_loadA agg_en (vs := (wakeE e c s).cells) rfl s9.rowAll
  exact bodyPost_ret (v := .tuple #[.agg (wakeE e c s).cells.toArray, .int .i64 0]) (by simp [results, Tryz.results175, asAddr, hL]) rfl (HK.out _ (s9.dropN 3))

/-- A certificate is woken. -/
theorem ewake_c {e : EnV} {c s : Int} (st : St W w R)
    (K : ∀ w', St W w' R → post (.returned (.tuple #[.agg (if wakeC e c s = 0 then wakeE e c s else EnV.zero).cells.toArray, .int .i64 (wakeC e c s)])) w') :
    Calls Tryz.prog 175 #[.agg e.cells.toArray, .agg [Value.int .i64 c, .int .i64 s].toArray] w post := by
  unfold wakeC at K
  by_cases hc : checkE e = 0
  · have hc' : ¬ checkE e ≠ 0 := fun x => x hc
    rw [if_neg hc'] at K
    cases hd : e.dead with
    | false => rw [hd] at K; exact ewake_live hc hd st K
    | true =>
      rw [hd] at K
      cases hg : stampB c s with
      | false => rw [hg] at K; exact ewake_bad hc hd hg st K
      | true =>
        rw [hg] at K
        cases hl : decide (cmpS c s e.ac e.az ≤ 0) with
        | true => rw [hl] at K; exact ewake_old hc hd hg rfl hl st K
        | false => rw [hl] at K; exact ewake_ok hc hd hg rfl hl st K
  · rw [if_pos hc, if_neg hc] at K
    exact ewake_chk rfl hc st K
end
end Go.Proofs.YtojfjbbggpfijaaGreatDoor
