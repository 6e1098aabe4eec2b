/- A mill: Tick; Count. Printed by mkTicT.py. -/
import Derived.Test.YtojfjbbggpfijaaGreatDoorTicM
import Derived.Test.YtojfjbbggpfijaaGreatDoorRumW
namespace Go.Proofs.YtojfjbbggpfijaaGreatDoor
open Go.RowKit Go.Qd RepV

theorem eqMG_mk (y z : Operand) (p k : MkV) (w : World) : (eqMG y z (.agg p.cells.toArray) (.agg k.cells.toArray)).run Tryz.prog w = .ok (.bool (mkEq p k)) w := by
  obtain ⟨a1, a2, a3⟩ := p
  obtain ⟨b1, b2, b3⟩ := k
  unfold eqMG MkV.cells mkEq
  go_simp
  by_cases h1 : a1 = b1
  · by_cases h2 : a2 = b2
    · by_cases h3 : a3 = b3
      · simp [h1, h2, h3]
      · have h4 : ¬ a3.toList = b3.toList := fun e => h3 (kb_inj (by rw [← Lib.toList_data, ← Lib.toList_data]; exact e))
        simp [h1, h2, h4]
    · simp [h1, h2]
  · simp [h1]
/-- A message of rumors. -/
def rum14 (ea : Option Addr) (en eq : Nat) : MsgV := { kindM 14 with ea := ea, en := en, eq := eq }
section
variable {W w : World} {R : List HP} {post : Ending → World → Prop} {c : List Int} {b dp : Nat} {A : RAd} {r : RepV}
section
attribute [local go_sem ↓] execOp_ldAny execOp_bsLt
attribute [local go_sem] run_bsLt
set_option maxRecDepth 100000 in
set_option maxHeartbeats 16000000 in
theorem tick_c {a pa : Option Addr} {n cp pn pc : Nat} {l : List TkV} {ps D : List Int} (hc : c.length = 20) (h14 : c.getD 14 0 ≤ 4000) (hr : RepOK r) (hh : HotI (c.getD 14 0) (c.getD 15 0) l)
    (hp : Rds W R 1 pa pn pc (ivs ps)) (hpn : pn ≤ 4096)
    (st : St W w (OwnS 4 a n cp (tkC l) :: row b 0 (millC A.p c dp a n cp) :: RepA A r :: DiceA dp D :: R))
    (K0 : l.filter (freshB r) = [] ∨ ps.filter (nodeB (c.getD 0 0) r.site) = [] → ∀ n' w', St W w' (OwnS 4 a n' cp (tkC (l.filter (freshB r))) :: row b 0 (millC A.p c dp a n' cp) :: RepA A r :: DiceA dp D :: R) → post (.returned (.slice none 0 0)) w')
    (K1 : l.filter (freshB r) ≠ [] → ps.filter (nodeB (c.getD 0 0) r.site) ≠ [] → ∀ n' ta tn tc B w', St W w' (row B 0 (LetV.cells ⟨pickV D (ps.filter (nodeB (c.getD 0 0) r.site)), rum14 ta tn tc⟩) :: OwnS 9 ta tn tc (enC (toldL r (c.getD 17 0) [] (l.filter (freshB r)))) ::
        OwnS 4 a n' cp (tkC (l.filter (freshB r))) :: row b 0 (millC A.p c dp a n' cp) :: RepA A r :: DiceA dp (drawL D (ps.filter (nodeB (c.getD 0 0) r.site)).length) :: R) → post (.returned (.slice (some ⟨B, 0, none⟩) 1 1)) w') :
    Calls Tryz.prog 20 #[.pointer (some ⟨b, 0, none⟩), .slice pa pn pc] w post := by
  have HK0 := hid K0; have HK1 := hid K1; clear K0 K1
  have HC := hid hc; have HR := hid hr; have HPS := hid hp; have HPN := hid hpn
  have hln : l.length = n := tkC_ln (OwnS.rd st)
  have HN4 : Hid (n ≤ 4096) := hid (by have := hh.len; omega)
  obtain ⟨l1, hl1⟩ : ∃ z, l.filter (freshB r) = z := ⟨_, rfl⟩
  obtain ⟨zs, hzs⟩ : ∃ z, ps.filter (nodeB (c.getD 0 0) r.site) = z := ⟨_, rfl⟩
  have HI1 : Hid (HotI (c.getD 14 0) (c.getD 15 0) l1) := hid (by rw [← hl1]; exact hh.keep _)
  have H14 := hid h14
  have HFF : Hid (ps.filter (fun x => !(!nodeB (c.getD 0 0) r.site x)) = zs) := hid (by rw [← hzs]; simp)
  rw [hl1, hzs] at HK0 HK1
  have HL1 := hid hl1
  have s1 := st.alloc #[.pointer (some ⟨b, 0, none⟩)] 31
  have Hm : ∀ fn first cap w, (Instr.makeFunc fn first cap).run Tryz.prog w = .ok (.func fn first cap) w := fun _ _ _ _ => rfl
  have LM : Hid (∀ {w' : World} {R' : List HP} {M : Nat}, St W w' (row M 0 [.pointer (some ⟨b, 0, none⟩)] :: R') → (loadG 31 (.pointer (some ⟨M, 0, none⟩))).run Tryz.prog w' = .ok (.pointer (some ⟨b, 0, none⟩)) w') := hid (fun s => run_ldP (by kernel_rfl) (row1c s))
  have LD : Hid (∀ {w' : World} {R' : List HP} {n' : Nat}, St W w' (row b 0 (millC A.p c dp a n' cp) :: R') → (loadG 38 (.pointer (some ⟨b, 21, none⟩))).run Tryz.prog w' = .ok (.pointer (some ⟨dp, 0, none⟩)) w') := hid (fun s => run_ldP (by kernel_rfl) (mill_at HC.out s).2.1)
  have LS : Hid (∀ {w' : World} {R' : List HP} {n' : Nat}, St W w' (row b 0 (millC A.p c dp a n' cp) :: R') → (loadG 117 (.pointer (some ⟨b, 22, none⟩))).run Tryz.prog w' = .ok (.slice a n' cp) w') := hid (fun s => run_ldP (by kernel_rfl) (mill_at HC.out s).2.2.1)
  have lM := LM.out s1
  clear hc hr hp hpn hln hh h14 hl1 hzs
  go_enter Tryz.func20, Tryz.ntmps20
  go_upto_region 2 with (go_at_call 51; refine keep_c (g := freshB r) HC.out HN4.out (fun P x => keep1_FR HC.out HR.out) (s1.perm [1, 2, 1]) ?_; rintro n3 w3 hn3 s3; rw [HL1.out] at hn3 s3; have HN3 := hid hn3; clear hn3)
  obtain ⟨M, hM⟩ : ∃ M, w.heap.size = M := ⟨_, rfl⟩
  rw [hM] at s3 ⊢
  clear lM hM s1
  have lM := LM.out (St.pick 3 s3)
  have lS := LS.out (St.pick 2 s3)
  cases d3 : ((n3 : Int) == 0) with
  | true =>
    have h0 : l1 = [] := by have := HN3.out; have : n3 = 0 := by simpa using d3
                            exact List.eq_nil_of_length_eq_zero (by omega)
    have HZ := hid (HK0.out (.inl h0))
    clear h0
    go_wp2_with fail
    exact HZ.out n3 _ (((s3.perm [3]).drop).perm [0, 1])
  | false =>
    have h0 : l1 ≠ [] := by intro h; have := HN3.out; rw [h] at this; simp at this; subst this; simp at d3
    have HNE := hid h0
    clear h0
    go_upto_region 4 with (fail)
    try simp only [Act.put, List.setIfInBounds_toArray, List.set_cons_succ, List.set_cons_zero]
    obtain ⟨pv, hpv⟩ : ∃ z, (if zs = [] then 0 else pickV D zs) = z := ⟨_, rfl⟩
    obtain ⟨dv, hdv⟩ : ∃ z, (if zs = [] then D else drawL D zs.length) = z := ⟨_, rfl⟩
    obtain ⟨tv, htv⟩ : ∃ z, (!zs.isEmpty) = z := ⟨_, rfl⟩
    have HPV := hid hpv; have HDV := hid hdv; have HTV := hid htv
    clear hpv hdv htv
    go_cut [5, 6] (fun tt oo wx => tt = .int .i64 pv ∧ oo = .bool tv ∧ St W wx (DiceA dp dv :: OwnS 4 a n3 cp (tkC l1) :: row b 0 (millC A.p c dp a n3 cp) :: RepA A r :: row M 0 [.pointer (some ⟨b, 0, none⟩)] :: R))
    case first =>
      have u := s3.drew
      have gA := And.intro (LM.out (St.pick 3 u)) (LD.out (St.pick 2 u))
      have hpb : pn * 8 ≤ 140737488355328 := by have := HPN.out; omega
      go_region_held3 (fun w' => (loadG 31 (.pointer (some ⟨M, 0, none⟩))).run Tryz.prog w' = .ok (.pointer (some ⟨b, 0, none⟩)) w' ∧ (loadG 38 (.pointer (some ⟨b, 21, none⟩))).run Tryz.prog w' = .ok (.pointer (some ⟨dp, 0, none⟩)) w')
        (first
          | with_reducible exact gD
          | with_reducible exact gC
          | with_reducible exact gB
          | with_reducible exact gA)
        (first
          | (go_at_call 37; refine clone_c u (HPS.out _ (u.dropN 5)) hpb ?_; rintro a5 c5 w5 s5
             have gB := And.intro (LM.out (St.pick 4 s5)) (LD.out (St.pick 3 s5))
             have t1 := (St.flat [row b 0 (millC A.p c dp a n3 cp), RepA A r]).2 (s5.perm [3, 2])
             have t2 := (St.flat [row M 0 [.pointer (some ⟨b, 0, none⟩)], sepL [row b 0 (millC A.p c dp a n3 cp), RepA A r]]).2 (t1.pick 3)
             have t3 := t2.pick 1)
          | (go_at_call 57; refine nDel_c (g := fun x => !nodeB (c.getD 0 0) r.site x) HPN.out (fun x => tick1_c HC.out) t3 ?_; rintro n6 w6 hn6 t4; rw [HFF.out] at hn6 t4; have HN6 := hid hn6; clear hn6
             have t5 := (St.flat [row M 0 [.pointer (some ⟨b, 0, none⟩)], sepL [row b 0 (millC A.p c dp a n3 cp), RepA A r]]).1 (t4.pick 1)
             have s6 := (St.flat [row b 0 (millC A.p c dp a n3 cp), RepA A r]).1 (t5.pick 1)
             have gC := And.intro (LM.out (St.pick 2 s6)) (LD.out s6))
          | (go_at_call 56; refine pick_c (s6.perm [5, 3]) (fun w' s' => OwnS.rd s') ?_; rintro w7 s7; rw [HPV.out, HTV.out]; rw [HDV.out] at s7
             have gD := And.intro (LM.out (St.pick 4 s7)) (LD.out (St.pick 2 s7))))
      all_goals
        go_wp2_with fail
        go_meet
        case rel => exact ⟨rfl, rfl, ((s7.pick 1).drop).perm [0, 3]⟩
    case rest =>
    obtain ⟨rfl, rfl, s8⟩ := hcut
    cases tv with
    | false =>
      have hz0 : zs = [] := by have := HTV.out; simpa using this
      have HZ := hid (HK0.out (.inr hz0))
      have hdv := HDV.out
      rw [if_pos hz0] at hdv
      rw [← hdv] at s8
      clear hz0 hdv
      go_wp2_with fail
      exact HZ.out n3 _ (((s8.perm [4]).drop).perm [1, 1, 1])
    | true =>
      have hz0 : zs ≠ [] := by have := HTV.out; simpa using this
      have HZ := hid (HK1.out HNE.out hz0)
      have hdv := HDV.out
      have hpv := HPV.out
      rw [if_neg hz0] at hdv hpv
      rw [← hdv] at s8
      rw [hpv] at HZ
      clear hz0 hdv hpv
      have hn3b : n3 ≤ 4096 := by have h1 := HI1.out.len; have h2 := HN3.out; have h3 := H14.out; omega
      have HN3B := hid hn3b
      clear hn3b
      have l0 := LM.out (St.pick 4 s8)
      have s9 := OwnS.none0 (sz := 1) s8
      go_wp2_with (first
        | (go_at_call 42; refine told_c (ks := []) HC.out HN3B.out HR.out (s9.perm [4, 2, 2, 0]) ?_; rintro ta tn tc wt st'
           have sL := st'.alloc (LetV.cells ⟨pv, rum14 ta tn tc⟩).toArray 65)
        | (refine wpl_build (t := 62) rfl rfl (v := .agg (rum14 ta tn tc).cells.toArray) (by kernel_rfl) ?_)
        | (refine wpl_build (t := 65) rfl rfl (v := .agg (LetV.cells ⟨pv, rum14 ta tn tc⟩).toArray) (by kernel_rfl) ?_))
      exact HZ.out n3 ta tn tc _ _ (((sL.perm [5, 6]).dropN 2).perm [0, 0, 1, 1, 0, 0])
end
theorem countL_at {l : List TkV} {k : MkV} {i : Nat} (h : i < l.length) (hg : mkEq l[i].m k = true) (ha : (l.take i).all (fun t => !mkEq t.m k) = true) : countL l k = l[i].n := by
  have hf : l.find? (fun t => mkEq t.m k) = some l[i] := by
    rw [List.find?_eq_some_iff_getElem]
    refine ⟨hg, i, h, rfl, fun j hj => ?_⟩
    have hjl : j < (l.take i).length := by rw [List.length_take]; omega
    have := List.all_eq_true.1 ha _ (List.getElem_mem hjl)
    rw [List.getElem_take] at this
    exact this
  unfold countL
  rw [hf]
  rfl
theorem countL_no {l : List TkV} {k : MkV} (ha : l.all (fun t => !mkEq t.m k) = true) : countL l k = 0 := by
  have hf : l.find? (fun t => mkEq t.m k) = none := by
    rw [List.find?_eq_none]
    intro x hx
    have := List.all_eq_true.1 ha x hx
    simpa using this
  unfold countL
  rw [hf]
  rfl
section
attribute [local go_sem ↓] execOp_ldAny execOp_eqM
set_option maxRecDepth 100000 in
set_option maxHeartbeats 8000000 in
theorem count_c {a : Option Addr} {n cp rp : Nat} {l : List TkV} {k : MkV} (hc : c.length = 20) (st : St W w (OwnS 4 a n cp (tkC l) :: row b 0 (millC rp c dp a n cp) :: R))
    (K : ∀ w', St W w' (OwnS 4 a n cp (tkC l) :: row b 0 (millC rp c dp a n cp) :: R) → post (.returned (.int .i64 (countL l k))) w') :
    Calls Tryz.prog 24 #[.pointer (some ⟨b, 0, none⟩), .agg k.cells.toArray] w post := by
  have HK := hid K; clear K
  have HC := hid hc
  have hl : l.length = n := tkC_ln (OwnS.rd st)
  have HL := hid hl
  have hbig := (OwnS.rd st).big
  have LS : Hid (∀ {w' : World} {R' : List HP}, St W w' (row b 0 (millC rp c dp a n cp) :: R') → (loadG 117 (.pointer (some ⟨b, 22, none⟩))).run Tryz.prog w' = .ok (.slice a n cp) w') := hid (fun s => run_ldP (by kernel_rfl) (mill_at HC.out s).2.2.1)
  clear hc hl
  go_enter Tryz.func24, Tryz.ntmps24
  go_wp2_with (refine wpl_boxA (vs := k.cells) rfl (.tmp 1) rfl rfl st ?_; rintro T w2 s2; have lS := LS.out (St.pick 2 s2))
  go_loopw [12] (fun ii wr => ∃ i : Nat, i ≤ n ∧ ii = .int .i64 i ∧ Hid ((l.take i).all (fun t => !mkEq t.m k) = true) ∧ St W wr (row T 0 k.cells :: OwnS 4 a n cp (tkC l) :: row b 0 (millC rp c dp a n cp) :: R)) (fun ii _ => n - (intOf ii).toNat)
  case atStart => exact ⟨0, Nat.zero_le _, rfl, hid rfl, s2⟩
  case round =>
    obtain ⟨i, hi, rfl, HA, sr⟩ := hrel
    by_cases hlt : i < n
    · have hi2 : (i : Int) < (n : Int) := by omega
      have hiL : i < l.length := by rw [HL.out]; exact hlt
      have rd := OwnS.rd (St.pick 1 sr)
      obtain ⟨gb, go, rfl⟩ := rd.addr (by omega)
      have l0 := tkC_ld rd hiL
      have HT : Hid ((l.take (i + 1)).all (fun t => !mkEq t.m k) = (!mkEq l[i].m k)) := hid (by rw [List.take_succ_eq_append_getElem hiL, List.all_append, HA.out]; simp)
      have HV : Hid (mkEq l[i].m k = true → countL l k = l[i].n) := hid (fun h => countL_at hiL h HA.out)
      obtain ⟨x, hx⟩ : ∃ x, l[i] = x := ⟨_, rfl⟩
      rw [hx] at l0 HT HV
      obtain ⟨t, ht⟩ : ∃ t, mkEq x.m k = t := ⟨_, rfl⟩
      rw [ht] at HT HV
      have gE : ∀ (y z : Operand) (w : World), (eqMG y z (.agg x.m.cells.toArray) (.agg k.cells.toArray)).run Tryz.prog w = .ok (.bool t) w := by
        intro y z w
        rw [← ht]
        exact eqMG_mk y z x.m k w
      clear hx rd hiL ht
      cases t with
      | true =>
        go_wp2_with (first
          | (refine wpl_allocA (vs := [.int .i64 0, .int .i64 0, .string ByteArray.empty, .int .i64 0]) rfl rfl (fun _ => by kernel_rfl) sr ?_; rintro E w3 s3)
          | (refine wpl_storeA (vs := x.cells) rfl (.tmp 6) (.tmp 15) (by rfl) agg_tk (by rfl) (by rfl) rfl (tk_one _) s3 rfl ?_; rintro w4 s4; have l1 := run_loadG agg54 (vs := x.m.cells) rfl (St.rowPart s4 0 (xs := x.m.cells) (ys := [.int .i64 x.n]) rfl); have l2 := run_loadG agg54 (vs := k.cells) rfl (St.pick 1 s4).rowAll
             have l3 : (loadG 3 (.pointer (some ⟨E, 3, none⟩))).run Tryz.prog w4 = .ok (.int .i64 x.n) w4 := run_ldP (by kernel_rfl) (by have := s4.rowCell (i := 3) (v := .int .i64 x.n) rfl; rwa [Nat.zero_add] at this)))
        have h1 := HK.out _ (s4.dropN 2)
        rw [HV.out (by simp)] at h1
        exact h1
      | false =>
        go_wp2_with (first
          | (refine wpl_allocA (vs := [.int .i64 0, .int .i64 0, .string ByteArray.empty, .int .i64 0]) rfl rfl (fun _ => by kernel_rfl) sr ?_; rintro E w3 s3)
          | (refine wpl_storeA (vs := x.cells) rfl (.tmp 6) (.tmp 15) (by rfl) agg_tk (by rfl) (by rfl) rfl (tk_one _) s3 rfl ?_; rintro w4 s4; have l1 := run_loadG agg54 (vs := x.m.cells) rfl (St.rowPart s4 0 (xs := x.m.cells) (ys := [.int .i64 x.n]) rfl); have l2 := run_loadG agg54 (vs := k.cells) rfl (St.pick 1 s4).rowAll))
        go_roundw
        case rel => exact ⟨i + 1, by omega, by go_num, hid HT.out, s4.drop⟩
        case measure => simp [intOf]; omega
    · have hie : i = n := by omega
      subst hie
      have ha := HA.out
      rw [List.take_of_length_le (by rw [HL.out]; exact Nat.le_refl _)] at ha
      have h1 := HK.out _ sr.drop
      rw [countL_no ha] at h1
      have HK1 := hid h1; clear h1 ha
      go_wp2_with fail
      exact HK1.out
end
end
end Go.Proofs.YtojfjbbggpfijaaGreatDoor
