/- Not again: the law's walk. Printed by mkGraW.py. -/
import Derived.Test.YtggbeedghblakaaGreatDoorReos
import Derived.Test.YtggbeedghblakaaGreatDoorSpkR
import Derived.Test.YtggbeedghblakaaGreatDoorTiks
import Derived.Test.YtggbeedghblakaaGreatDoorDels
import Derived.Test.YtggbeedghblakaaGreatDoorLaws
import Derived.Test.YtggbeedghblakaaGreatDoorRngs
import Derived.Test.YtggbeedghblakaaGreatDoorLib
import Derived.Deep.RegionLaw
import Derived.Deep.DeepCutAuto
import Derived.Deep.CutBlock
namespace Go.Proofs.YtggbeedghblakaaGreatDoor
open Go.RowKit Go.Qd RepV

/-- A key's grave, looked for one by one. -/
def ovF (k : ByteArray) (o : EnV) (p : KE) : EnV := if p.2.key = k then p.2 else o
theorem ov_no {k : ByteArray} : ∀ {l : List KE} (o : EnV), (∀ p ∈ l, p.2.key ≠ k) → l.foldl (ovF k) o = o
  | [], _, _ => rfl
  | p :: l, o, h => by
    rw [List.foldl_cons]
    unfold ovF
    rw [if_neg (h p (by simp))]
    exact ov_no o fun q hq => h q (by simp [hq])
theorem ov_is {k : ByteArray} : ∀ {l : List KE} (o : EnV), TSrt l → (∀ p ∈ l, p.1 = p.2.key) → l.foldl (ovF k) o = if thas l k = true then tget l k else o
  | [], _, _, _ => rfl
  | p :: l, o, hs, hk => by
    obtain ⟨h1, h2⟩ := List.pairwise_cons.1 hs
    rw [List.foldl_cons]
    have hp := hk p (by simp)
    by_cases h : p.2.key = k
    · have e1 : ovF k o p = p.2 := by unfold ovF; rw [if_pos h]
      rw [e1, ov_no p.2 fun q hq e => by
        have h3 := kLt_ord.ne (h1 q hq)
        have h4 := hk q (by simp [hq])
        exact h3 (by rw [hp, h4, h, e])]
      have h5 : thas (p :: l) k = true := hasK_iff.2 ⟨p, by simp, by rw [hp]; exact h⟩
      rw [if_pos h5]
      have : tget (p :: l) p.1 = p.2 := tget_mem hs (by simp)
      rw [← h, ← hp, this]
    · have e1 : ovF k o p = o := by unfold ovF; rw [if_neg h]
      have hpk : ¬ p.1 = k := by rw [hp]; exact h
      have h5 : thas (p :: l) k = thas l k := by unfold thas hasK; simp [hpk]
      have h6 : tget (p :: l) k = tget l k := by unfold tget getK; simp [hpk]
      rw [e1, ov_is o h2 fun q hq => hk q (by simp [hq]), h5, h6]

theorem agg_ropt2 : AggT Tryz.prog 51 5 := ⟨⟨_, Tryz.underlying51, rfl⟩, by kernel_rfl⟩
def neAG (x y : Operand) (a b : Value) : Sem Value := do eqGuard .neq 37 x y a b; Go.binOp .neq 37 a b
theorem execOp_neA (ρ : Operand → Value) (dst : Option Tmp) (x y : Operand) (r : TypeId) (ty : TypeId) (pos : String) (after : Array Edge) (guard : Option (Nat × Bool)) :
    execOp ρ { dst, op := .binOp .neq 37 x y r, type := ty, pos, after, guard } = (do pure (.value (← neAG x y (ρ x) (ρ y)))) := by simp [execOp, neAG]
theorem run_neA (x y : Operand) (a b : Int) (w : World) : (neAG x y (.agg #[.int .i64 a, .int .i64 b]) (.agg #[.int .i64 a, .int .i64 b])).run Tryz.prog w = .ok (.bool false) w := by
  unfold neAG
  go_simp
  try simp

theorem late_over {q : RepV} {e : EnV} {k : ByteArray} (h : Core q) (hk : e.key = k) : ((if thas q.gr k = true then tget q.gr k else EnV.zero).dead && ltrB (if thas q.gr k = true then tget q.gr k else EnV.zero).sc (if thas q.gr k = true then tget q.gr k else EnV.zero).ss e.sc e.ss) = q.overB e := by
  unfold RepV.overB
  rw [hk]
  cases hg : thas q.gr k with
  | false => rfl
  | true =>
    obtain ⟨p, hp, _, hpg⟩ := thas_mem hg h.ok.gr
    rw [if_pos rfl, hpg, (h.gr p hp).2, Bool.true_and, Bool.true_and, ltrB_eq]
    have h1 := @cmpS_lt e.sc e.ss p.2.sc p.2.ss
    have h2 := @cmpS_gt p.2.sc p.2.ss e.sc e.ss
    by_cases h3 : 0 < cmpS p.2.sc p.2.ss e.sc e.ss
    · rw [decide_eq_true h3, decide_eq_true (by omega)]
    · rw [decide_eq_false h3, decide_eq_false (by omega)]
/-- No grave is later than what the table has. -/
theorem grave_old {q : RepV} (h : Core q) {p : KE} (hp : p ∈ q.gr) (ht : thas q.tab p.2.key = true) : ltrB p.2.sc p.2.ss (tget q.tab p.2.key).sc (tget q.tab p.2.key).ss = false := by
  obtain ⟨x, hx, hxk, hxg⟩ := thas_mem ht h.ok.tab
  have h1 := h.old p hp x hx ((h.ok.grK p hp).trans hxk.symm)
  rw [hxg, ltrB_eq]
  have h2 := @cmpS_lt x.2.sc x.2.ss p.2.sc p.2.ss
  have h3 := @cmpS_gt p.2.sc p.2.ss x.2.sc x.2.ss
  exact decide_eq_false (by omega)

section
attribute [local go_sem ↓] execOp_ldAny
variable {W : World} {post : Ending → World → Prop}
theorem raKey {w : World} {R : List HP} {T : Nat} {x : RAct} (s : St W w (row T 0 x.cells :: R)) : (loadG 9 (.pointer (some ⟨T, 3, none⟩))).run Tryz.prog w = .ok (.string x.e.key) w := by
  have f : w.cell? ⟨T, 3, none⟩ = some (.string x.e.key) := by have := s.rowCell (i := 3) (v := .string x.e.key) rfl; rwa [Nat.zero_add] at this
  exact run_ldP (by kernel_rfl) f
theorem raStamp {w : World} {R : List HP} {T : Nat} {x : RAct} (s : St W w (row T 0 x.cells :: R)) : (loadG 33 (.pointer (some ⟨T, 6, none⟩))).run Tryz.prog w = .ok (.agg [Value.int .i64 x.e.sc, .int .i64 x.e.ss].toArray) w :=
  run_loadG (o := 0 + 6) ⟨⟨_, Tryz.underlying33, rfl⟩, by kernel_rfl⟩ (vs := [.int .i64 x.e.sc, .int .i64 x.e.ss]) rfl (St.rowPart s 6 (xs := [.int .i64 x.e.sc, .int .i64 x.e.ss]) (ys := [.int .i64 x.e.ac, .int .i64 x.e.az, .int .i64 x.e.kp, .int .i64 x.e.age]) (by simp [RAct.cells, EnV.cells]))
theorem rocheck4_c {w : World} {R : List HP} {o : OptV} (st : St W w R) (K1 : ∀ w', St W w' R → post (.returned (.int .i64 14)) w') (K0 : o.check = 0 → ∀ w', St W w' R → post (.returned (.int .i64 0)) w') : Calls Tryz.prog 25 #[.agg o.cells.toArray] w post := rocheck_c st K0 K1

attribute [local go_sem ↓] execOp_neA
attribute [local go_sem] run_neA
set_option maxRecDepth 100000 in
set_option maxHeartbeats 16000000 in
theorem graves_law_c {a : Option Addr} {n c : Nat} {l : List RAct} {o : OptV} (hf : FirstW W) (rd : RdS W 12 a n c (ractC l))
    (K : ∀ w', Below W.heap.size W w' → post (.returned (.bool true)) w') :
    Calls Tryz.prog 5 #[.agg o.cells.toArray, .slice a n c] W post := by
  have HK := hid K; clear K
  have HF := hid hf; have HRD := hid rd
  have HN : Hid (l.length = n) := hid (ractC_ln rd)
  have hbig := rd.big
  have HBIG := hid hbig
  clear hf rd
  go_enter Tryz.func5, Tryz.ntmps5
  go_wp2_with (first
    | (refine wpl_boxA (vs := o.cells) rfl (.tmp 0) rfl rfl (St.init W) ?_; rintro O w1 s1)
    | (go_at_call 12; have gg := s4; refine speaks_c HF.out s4 ?_; rintro w9 s9)
    | (go_at_call 12; have gg := s3; refine speaks_c HF.out s3 ?_; rintro w9 s9)
    | (go_at_call 12; refine speaks_c HF.out s1 ?_; rintro w2 s2)
    | (go_at_call 24; refine few12_c (HRD.out.rds _) HBIG.out s2 ?_; rintro (_ | _) w3 hb s3; all_goals (have HFW := hid hb; clear hb; have lO := run_loadG agg_ropt2 (vs := o.cells) rfl s3.rowAll))
    | (go_at_call 25; refine rocheck4_c s3 (fun w4 s4 => ?_) (fun hc w4 s4 => ?_))
    | (go_at_call 14; refine dnew_c s4 ?_; rintro d w5 s5; have lO2 := run_loadG agg_ropt2 (vs := o.cells) rfl (St.pick 1 s5).rowAll)
    | (go_at_call 26; refine of12_c s5 ?_; rintro w6 s6)
    | (go_at_call 13; refine open_g (o := o) (D' := DskV.new) (es := []) hc (by have := (check_ok hc).1; omega) DskOK.new (jopens0 DskOK.new rfl rfl) (fun _ h => by cases h) s6 ?_ (fun _ h => by cases h); rintro q A w7 hq hAd s7; have hq2 := Option.some.inj hq; subst hq2; clear hq))
  · exact HK.out _ s9.below
  · exact HK.out _ s9.below
  have hck := check_ok hc
  have hn50 : n ≤ 50 := by have := HFW.out (by first | rfl | trivial); omega
  obtain ⟨q0, hq0⟩ : ∃ q0, RepV.fresh o.nodes o.quota o.retain o.t1 o.t2 0 DskV.new = q0 := ⟨_, rfl⟩
  have HC : Hid (OfOpt o 0 q0) := hid (by rw [← hq0]; exact ⟨rfl, rfl, rfl, rfl, rfl, rfl⟩)
  have hI0 : SInv q0 q0 0 [] := by
    have h1 : RepOK q0 := by rw [← hq0]; exact RepOK.fresh hck.1 hck.2.1 (by omega) hck.2.2.2.1 DskOK.new
    refine ⟨⟨[], ⟨Core.fresh h1 (by rw [← hq0]; rfl) (by rw [← hq0]; rfl) (by rw [← hq0]; rfl), by rw [← hq0]; exact LogD.new, fun _ h => (by cases h), fun p hp => by rw [← hq0] at hp; cases hp⟩, .inl rfl, fun _ h => (by cases h)⟩, Int.le_refl _, by rw [← hq0]; exact Int.le_refl _, SameC.refl _⟩
  rw [hq0] at s7
  have HCK := hid hck; have HI0 := hid hI0; have HA0 := hid hAd; have HCC := hid hc
  have s8 : St W w7 (RepA A q0 :: OwnS 1 none 0 0 (strC []) :: row O 0 o.cells :: []) := (OwnS.none0 s7).pick 1
  clear hc hq0 hck hI0 hAd s1 s2 s3 s4 s5 s6 s7 lO lO2 HFW
  go_loopw [6, 8, 55] (fun rr kk ii wr => ∃ (i : Nat) (A : RAd) (q : RepV) (ks : List ByteArray) (ka : Option Addr) (kn kc : Nat), i ≤ n ∧ rr = .pointer (some ⟨A.p, 0, none⟩) ∧ Hid (A.d = d) ∧ kk = .slice ka kn kc ∧ ii = .int .i64 i ∧
    Hid (SInv q0 q 0 ks) ∧ Hid (kn = ks.length ∧ kn ≤ i) ∧ St W wr (RepA A q :: OwnS 1 ka kn kc (strC ks) :: row O 0 o.cells :: [])) (fun _ _ ii _ => n - (intOf ii).toNat)
  case atStart => exact ⟨0, A, q0, [], none, 0, 0, Nat.zero_le _, rfl, HA0, rfl, rfl, HI0, hid ⟨rfl, Nat.le_refl _⟩, s8⟩
  clear s8 HA0
  case round =>
    obtain ⟨i, A, q, ks, ka, kn, kc, hi, rfl, HA, rfl, rfl, HQ, HKN, sr⟩ := hrel
    by_cases hlt : i < n
    · have hi2 : (i : Int) < (n : Int) := by omega
      have hiA : i < l.length := by rw [HN.out]; exact hlt
      have rdr := HRD.out.st sr
      obtain ⟨g3, o3, rfl⟩ := rdr.addr (by omega)
      have ci := ract_ld rdr hiA
      obtain ⟨x, hx⟩ : ∃ x, l[i] = x := ⟨_, rfl⟩
      rw [hx] at ci
      have hkm : kn ≤ 1000000 := by have := HKN.out; omega
      have HCO : Hid (Core q) := hid (by obtain ⟨es, b, _⟩ := HQ.out.es; exact b.c)
      clear hx rdr hiA
      go_wp2_with (first
        | (refine wpl_allocA rfl rfl zero_ra sr ?_; rintro T w2 s2)
        | (refine wpl_storeA (vs := x.cells) rfl (.tmp 10) (.tmp 58) (by rfl) agg_ra (by rfl) (by rfl) rfl (ract_one _) s2 rfl ?_; rintro w3 s3)
        | (refine wpl_build rfl rfl (v := .agg EnV.zero.cells.toArray) (by kernel_rfl) ?_)
        | (refine wpl_allocA rfl rfl zero_en s3 ?_; rintro V w4 s4)
        | (refine wpl_storeA (vs := EnV.zero.cells) rfl (.tmp 11) (.tmp 59) (by rfl) agg_en (by rfl) (by rfl) rfl (env_one _) s4 rfl ?_; rintro w5 s5)
        | (go_at_call 33; refine graves_c HQ.out.ok (St.pick 2 s5) ?_; rintro ga gn gc w6 hgn s6'
           have HGN := hid hgn
           have s6 : St W w6 (row V 0 EnV.zero.cells :: OwnS 9 ga gn gc (ke2 q.gr) :: row T 0 x.cells :: RepA A q :: OwnS 1 ka kn kc (strC ks) :: row O 0 o.cells :: []) := s6'.perm [2, 0, 1, 0]
           clear hgn))
      have hgn4 : gn ≤ 4096 := by rw [HGN.out]; exact HQ.out.ok.grL
      clear s2 s3 s4 s5 s6' ci
      obtain ⟨key, hkey⟩ : ∃ k, x.e.key = k := ⟨_, rfl⟩
      have HKEY := hid hkey
      go_loopw [63] (fun ii wr => ∃ j : Nat, j ≤ gn ∧ ii = .int .i64 j ∧ St W wr (row V 0 ((q.gr.take j).foldl (ovF key) EnV.zero).cells :: OwnS 9 ga gn gc (ke2 q.gr) :: row T 0 x.cells :: RepA A q :: OwnS 1 ka kn kc (strC ks) :: row O 0 o.cells :: [])) (fun ii _ => gn - (intOf ii).toNat)
      case atStart => exact ⟨0, Nat.zero_le _, rfl, s6⟩
      clear s6
      case round => as_aux_lemma =>
        obtain ⟨j, hj, rfl, sw⟩ := hrel
        by_cases hlt2 : j < gn
        · have hj2 : (j : Int) < (gn : Int) := by omega
          have hjA : j < q.gr.length := by rw [← HGN.out]; exact hlt2
          have rdr := OwnS.rd (St.pick 1 sw)
          obtain ⟨g4, o4, rfl⟩ := rdr.addr (by omega)
          have cj := ke2_ld rdr hjA
          have hfs : (q.gr.take (j + 1)).foldl (ovF key) EnV.zero = ovF key ((q.gr.take j).foldl (ovF key) EnV.zero) q.gr[j] := by rw [List.take_succ_eq_append_getElem hjA, List.foldl_append]; rfl
          obtain ⟨p, hp⟩ : ∃ p, q.gr[j] = p := ⟨_, rfl⟩
          rw [hp] at cj hfs
          obtain ⟨e, he⟩ : ∃ e, p.2 = e := ⟨_, rfl⟩
          rw [he] at cj
          obtain ⟨ov, hov⟩ : ∃ ov, (q.gr.take j).foldl (ovF key) EnV.zero = ov := ⟨_, rfl⟩
          rw [hov] at hfs sw
          have HFS : Hid ((q.gr.take (j + 1)).foldl (ovF key) EnV.zero = if e.key = key then e else ov) := hid (by rw [hfs]; unfold ovF; rw [he])
          have heq := bytesEq (x := e.key) (k := x.e.key)
          rw [hkey] at heq
          clear hp he hov hfs rdr hjA
          by_cases hk : e.key = key
          · rw [decide_eq_true hk] at heq
            have HFS2 : Hid ((q.gr.take (j + 1)).foldl (ovF key) EnV.zero = e) := hid (by rw [HFS.out, if_pos hk])
            clear hk HFS
            go_wp2_with (first
              | (refine wpl_allocA rfl rfl zero_en sw ?_; rintro X w2 s2)
              | (refine wpl_storeA (vs := e.cells) rfl (.tmp 13) (.tmp 66) (by rfl) agg_en (by rfl) (by rfl) rfl (env_one _) s2 rfl ?_; rintro w3 s3; obtain ⟨c0, c1, c2, c3, c4, c5, c6, c7⟩ := enL s3; have lk := raKey (St.pick 3 s3); rw [hkey] at lk)
              | (refine wpl_storeA (vs := e.cells) rfl (.tmp 11) (.tmp 73) (by rfl) agg_en (by rfl) (by rfl) rfl (env_one _) (St.pick 1 s3) rfl ?_; rintro w4 s4))
            go_roundw
            case rel => exact ⟨j + 1, by omega, by go_num, by rw [HFS2.out]; exact (s4.pick 1).drop⟩
            case measure => simp [intOf]; omega
          · rw [decide_eq_false hk] at heq
            have HFS2 : Hid ((q.gr.take (j + 1)).foldl (ovF key) EnV.zero = ov) := hid (by rw [HFS.out, if_neg hk])
            clear hk HFS
            go_wp2_with (first
              | (refine wpl_allocA rfl rfl zero_en sw ?_; rintro X w2 s2)
              | (refine wpl_storeA (vs := e.cells) rfl (.tmp 13) (.tmp 66) (by rfl) agg_en (by rfl) (by rfl) rfl (env_one _) s2 rfl ?_; rintro w3 s3; obtain ⟨c0, c1, c2, c3, c4, c5, c6, c7⟩ := enL s3; have lk := raKey (St.pick 3 s3); rw [hkey] at lk))
            go_roundw
            case rel => exact ⟨j + 1, by omega, by go_num, by rw [HFS2.out]; exact s3.drop⟩
            case measure => simp [intOf]; omega
        · have hje : j = gn := by omega
          subst hje
          rw [List.take_of_length_le (by rw [← HGN.out]; exact Nat.le_refl _), ov_is _ HCO.out.ok.gr HCO.out.ok.grK] at sw
          obtain ⟨ov, hov⟩ : ∃ ov, (if thas q.gr key = true then tget q.gr key else EnV.zero) = ov := ⟨_, rfl⟩
          have hlate := late_over (e := x.e) HCO.out hkey
          rw [hov] at sw hlate
          have HOV := hid hov; have HLATE := hid hlate
          have s5 : St W _ (row V 0 ov.cells :: row T 0 x.cells :: RepA A q :: OwnS 1 ka kn kc (strC ks) :: row O 0 o.cells :: []) := (sw.pick 1).drop
          clear sw hov hlate hkey
          obtain ⟨l0, l1, l2, l3⟩ := raLd (St.pick 1 s5)
          obtain ⟨kd, hkd⟩ : ∃ kd, x.kind = kd := ⟨_, rfl⟩
          rw [hkd] at l0
          clear hkd
          have HQC : Hid (OfOpt o 0 q ∧ q.room = o.nodes * o.quota) := hid (by
            have h1 := HQ.out.c; have h2 := HC.out
            refine ⟨⟨h1.nodes.trans h2.1, h1.quota.trans h2.2.1, h1.retain.trans h2.2.2.1, h1.t1.trans h2.2.2.2.1, h1.t2.trans h2.2.2.2.2.1, h1.site.trans h2.2.2.2.2.2⟩, ?_⟩
            unfold RepV.room; rw [h1.nodes, h1.quota, h2.1, h2.2.1])
          go_upto_block 4 with (fail)
          go_cut [6, 8] (fun rr kk wx => ∃ (A2 : RAd) (q2 : RepV) (ks2 : List ByteArray) (ka2 : Option Addr) (kn2 kc2 : Nat), rr = .pointer (some ⟨A2.p, 0, none⟩) ∧ Hid (A2.d = d) ∧ kk = .slice ka2 kn2 kc2 ∧ Hid (kn2 = ks2.length ∧ kn2 ≤ i + 1) ∧ Hid (SInv q0 q2 0 ks2) ∧
            St W wx (RepA A2 q2 :: OwnS 1 ka2 kn2 kc2 (strC ks2) :: row O 0 o.cells :: []))
          case first => as_aux_lemma =>
            by_cases k0 : kd = 0
            · subst k0
              obtain ⟨q2, hq2⟩ : ∃ q2, q.put x.key x.val = q2 := ⟨_, rfl⟩
              obtain ⟨z, hz⟩ : ∃ z, q.putW x.key x.val = z := ⟨_, rfl⟩
              obtain ⟨e, he⟩ : ∃ e, q.putX x.key x.val = e := ⟨_, rfl⟩
              have HQ2 := hid hq2; have HZ := hid hz; have HE := hid he
              clear hq2 hz he
              cases hz0 : (z == 0) with
              | false =>
                have HI2 : Hid (SInv q0 q2 0 ks) := hid (by rw [← HQ2.out]; exact HQ.out.put_no (by rw [HZ.out]; simpa using hz0))
                go_wp2_with (first
                  | (go_at_call 27; refine rput_c HQ.out.ok HF.out (St.pick 2 s5) ?_; rintro w6 s6; rw [HQ2.out] at s6; rw [HZ.out, HE.out])
                  | (refine wpl_allocA rfl rfl zero_en s6 ?_; rintro U w8 s8)
                  | (refine wpl_storeA (vs := e.cells) rfl (.tmp 14) (.tmp 86) (by rfl) agg_en (by rfl) (by rfl) rfl (env_one _) s8 rfl ?_; rintro w9 s9))
                go_meet
                case rel => exact ⟨A, q2, ks, ka, kn, kc, rfl, HA, rfl, hid ⟨HKN.out.1, by have := HKN.out.2; omega⟩, HI2, s9.sel [1, 3, 3]⟩
              | true =>
                have hzz : q.putW x.key x.val = 0 := by rw [HZ.out]; simpa using hz0
                obtain ⟨i1, _⟩ := HQ.out.put_ok hzz
                rw [HQ2.out] at i1
                have HI2 : Hid (SInv q0 q2 0 (noteL ks x.key)) := hid (by obtain ⟨es, b, _, b3⟩ := i1.es; exact ⟨⟨es, b, .inl rfl, b3⟩, Int.le_refl _, i1.ok.cnt, i1.c⟩)
                clear i1 hzz
                go_wp2_with (first
                  | (go_at_call 27; refine rput_c HQ.out.ok HF.out (St.pick 2 s5) ?_; rintro w6 s6; rw [HQ2.out] at s6; rw [HZ.out, HE.out])
                  | (refine wpl_allocA rfl rfl zero_en s6 ?_; rintro U w8 s8)
                  | (refine wpl_storeA (vs := e.cells) rfl (.tmp 14) (.tmp 86) (by rfl) agg_en (by rfl) (by rfl) rfl (env_one _) s8 rfl ?_; rintro w9 s9; obtain ⟨j0, j1, j2, j3⟩ := raLd (St.pick 3 s9))
                  | (go_at_call 28; refine noted_c hkm (St.pick 4 s9) ?_; rintro kb nb cb wB hnb sB; have HNB := hid hnb; clear hnb))
                go_meet
                case rel =>
                  refine ⟨A, q2, noteL ks x.key, kb, nb, cb, rfl, HA, rfl, hid ⟨HNB.out, ?_⟩, HI2, sB.sel [2, 0, 3]⟩
                  rw [HNB.out]; have := HKN.out; unfold noteL; split <;> simp <;> omega
            by_cases k1 : kd = 1
            · subst k1
              go_wp2_with (go_at_call 29; refine rdel_c HQ.out.ok (by have := HQC.out.1; have := HCK.out.1; unfold OfOpt at *; omega) (by have := HQC.out.1; have := HCK.out.2.2.1; unfold OfOpt at *; omega) (by have := HQC.out.1; have := HCK.out.1; unfold OfOpt at *; omega) HF.out (St.pick 2 s5) ?_; rintro kp w6 s6)
              go_meet
              case rel =>
                have HI2 : Hid (SInv q0 (q.del x.key kp) 0 ks) := hid (by
                  by_cases hw : q.delW x.key kp = 0
                  · obtain ⟨i1, _⟩ := HQ.out.del_ok hw
                    obtain ⟨es, b, _, b3⟩ := i1.es; exact ⟨⟨es, b, .inl rfl, b3⟩, Int.le_refl _, i1.ok.cnt, i1.c⟩
                  · exact HQ.out.del_no hw)
                exact ⟨A, q.del x.key kp, ks, ka, kn, kc, rfl, HA, rfl, hid ⟨HKN.out.1, by have := HKN.out.2; omega⟩, HI2, s6.sel [0, 2, 2]⟩
            by_cases k2 : kd = 2
            · subst k2
              obtain ⟨q2, hq2⟩ : ∃ q2, q.merge x.e = q2 := ⟨_, rfl⟩
              obtain ⟨z, hz⟩ : ∃ z, q.mergeW x.e = z := ⟨_, rfl⟩
              obtain ⟨kk, hkk⟩ : ∃ kk, q.mergeK x.e = kk := ⟨_, rfl⟩
              obtain ⟨e, he⟩ : ∃ e, q.mergeX x.e = e := ⟨_, rfl⟩
              obtain ⟨lt, hlt3⟩ : ∃ lt, q.overB x.e = lt := ⟨_, rfl⟩
              have hLA := HLATE.out
              rw [hlt3] at hLA
              have HQ2 := hid hq2; have HZ := hid hz; have HE := hid he; have HKK := hid hkk; have HLT := hid hlt3; have HLA := hid hLA
              have HTR : Hid (kk = 0 ∨ kk = 1 ∨ kk = 2) := hid (by obtain ⟨es, b, _⟩ := HQ.out.es; rw [← HKK.out]; exact (b.merge x.e).2.2.2.2)
              clear hq2 hz he hkk hlt3 hLA
              go_upto_if 112 with (first
                | (go_at_call 17; refine enOf_c (e := x.e) s5 ?_; rintro w6 s6)
                | (go_at_call 16; refine merge_c (e := x.e) HQ.out.ok (St.pick 2 s6) ?_; rintro w7 s7; rw [HQ2.out] at s7; rw [HZ.out, HE.out, HKK.out])
                | (refine wpl_allocA rfl rfl zero_en s7 ?_; rintro U w8 s8)
                | (refine wpl_storeA (vs := e.cells) rfl (.tmp 17) (.tmp 109) (by rfl) agg_en (by rfl) (by rfl) rfl (env_one _) s8 rfl ?_; rintro w9 s9; have lk2 := raKey (St.pick 3 s9)))
              go_cut [8] (fun kv wx => ∃ (kb : Option Addr) (nb cb : Nat) (ks2 : List ByteArray), kv = .slice kb nb cb ∧ Hid (nb = ks2.length ∧ nb ≤ i + 1) ∧ Hid (SInv q0 q2 0 ks2) ∧ St W wx (row V 0 ov.cells :: row T 0 x.cells :: row U 0 e.cells :: RepA A q2 :: OwnS 1 kb nb cb (strC ks2) :: row O 0 o.cells :: []))
              case first => as_aux_lemma =>
                rcases HTR.out with h0 | h1 | h2
                · subst h0
                  have HI2 : Hid (SInv q0 q2 0 ks) := hid (by rw [← HQ2.out]; exact HQ.out.merge_old HKK.out)
                  go_wp2_with fail
                  go_meet
                  case rel => exact ⟨ka, kn, kc, ks, rfl, hid ⟨HKN.out.1, by have := HKN.out.2; omega⟩, HI2, s9.sel [2, 2, 0, 0, 0, 0]⟩
                · subst h1
                  obtain ⟨i1, _, _⟩ := HQ.out.merge_taken HKK.out
                  rw [HQ2.out] at i1
                  have HI2 := hid i1
                  clear i1
                  go_wp2_with (go_at_call 28; refine noted_c hkm (St.pick 4 s9) ?_; rintro kb nb cb wB hnb sB; have HNB := hid hnb; clear hnb)
                  go_meet
                  case rel =>
                    refine ⟨kb, nb, cb, noteL ks x.e.key, rfl, hid ⟨HNB.out, ?_⟩, HI2, sB.sel [3, 3, 1, 1, 0, 0]⟩
                    rw [HNB.out]; have := HKN.out; unfold noteL; split <;> simp <;> omega
                · subst h2
                  obtain ⟨i1, _, _, _⟩ := HQ.out.merge_woken HKK.out
                  rw [HQ2.out, HE.out] at i1
                  have HI2 : Hid (SInv q0 q2 0 (noteL ks x.e.key)) := hid (by obtain ⟨es, b, _, b3⟩ := i1.es; exact ⟨⟨es, b, .inl rfl, b3⟩, Int.le_refl _, i1.ok.cnt, i1.c⟩)
                  clear i1
                  go_wp2_with (go_at_call 28; refine noted_c hkm (St.pick 4 s9) ?_; rintro kb nb cb wB hnb sB; have HNB := hid hnb; clear hnb)
                  go_meet
                  case rel =>
                    refine ⟨kb, nb, cb, noteL ks x.e.key, rfl, hid ⟨HNB.out, ?_⟩, HI2, sB.sel [3, 3, 1, 1, 0, 0]⟩
                    rw [HNB.out]; have := HKN.out; unfold noteL; split <;> simp <;> omega
              case rest =>
              obtain ⟨kb, nb, cb, ks2, rfl, HKB, HI2, sc⟩ := hcut
              clear s9 lk2
              try go_wp2_with fail
              try simp only [Act.put, List.setIfInBounds_toArray, List.set_cons_succ, List.set_cons_zero]
              go_cut [19] (fun v wx => v = .bool lt ∧ St W wx (row V 0 ov.cells :: row T 0 x.cells :: row U 0 e.cells :: RepA A q2 :: OwnS 1 kb nb cb (strC ks2) :: row O 0 o.cells :: []))
              case first => as_aux_lemma =>
                have hN6 : Nonempty (Cls (fun w' => St W w' (row V 0 ov.cells :: row T 0 x.cells :: row U 0 e.cells :: RepA A q2 :: OwnS 1 kb nb cb (strC ks2) :: row O 0 o.cells :: []))) := Cls.inh sc
                have fV := fun s : Cls (fun w' => St W w' (row V 0 ov.cells :: row T 0 x.cells :: row U 0 e.cells :: RepA A q2 :: OwnS 1 kb nb cb (strC ks2) :: row O 0 o.cells :: [])) => (enL s.h).2.2.2.2.2.2.2
                have fS := fun s : Cls (fun w' => St W w' (row V 0 ov.cells :: row T 0 x.cells :: row U 0 e.cells :: RepA A q2 :: OwnS 1 kb nb cb (strC ks2) :: row O 0 o.cells :: [])) => raStamp (St.pick 1 s.h)
                cases hdd : ov.dead with
                | false =>
                  have hlf : lt = false := by have := HLA.out; rw [hdd] at this; exact this.symm
                  subst hlf
                  have fD := fun s : Cls (fun w' => St W w' (row V 0 ov.cells :: row T 0 x.cells :: row U 0 e.cells :: RepA A q2 :: OwnS 1 kb nb cb (strC ks2) :: row O 0 o.cells :: [])) => (hdd ▸ (enL s.h).2.2.1 : (loadG 4 (.pointer (some ⟨V, 2, none⟩))).run Tryz.prog s.w = .ok (.bool false) s.w)
                  clear hdd
                  refine wp_region_class (fun w' => St W w' (row V 0 ov.cells :: row T 0 x.cells :: row U 0 e.cells :: RepA A q2 :: OwnS 1 kb nb cb (strC ks2) :: row O 0 o.cells :: [])) (by kernel_rfl) (by kernel_rfl) sc.drew ?_
                  repeat (go_big_quiet_step (fail))
                  clear hN6 fV fS fD
                  refine wpQuiet_nil ?_
                  rintro ⟨w6, s6⟩
                  dsimp only
                  go_wp2_with fail
                  go_meet
                  case rel => exact ⟨rfl, s6⟩
                | true =>
                  have hlt4 : ltrB ov.sc ov.ss x.e.sc x.e.ss = lt := by have := HLA.out; rw [hdd] at this; exact this
                  have HL4 := hid hlt4
                  have hfd : ∀ w, (Instr.field 35 (.agg ov.cells.toArray) 3).run Tryz.prog w = .ok (.agg [Value.int .i64 ov.sc, .int .i64 ov.ss].toArray) w := fun w => by kernel_rfl
                  have fD := fun s : Cls (fun w' => St W w' (row V 0 ov.cells :: row T 0 x.cells :: row U 0 e.cells :: RepA A q2 :: OwnS 1 kb nb cb (strC ks2) :: row O 0 o.cells :: [])) => (hdd ▸ (enL s.h).2.2.1 : (loadG 4 (.pointer (some ⟨V, 2, none⟩))).run Tryz.prog s.w = .ok (.bool true) s.w)
                  clear hdd hlt4
                  refine wp_region_class (fun w' => St W w' (row V 0 ov.cells :: row T 0 x.cells :: row U 0 e.cells :: RepA A q2 :: OwnS 1 kb nb cb (strC ks2) :: row O 0 o.cells :: [])) (by kernel_rfl) (by kernel_rfl) sc.drew ?_
                  repeat (go_big_quiet_step ((rename_i s; first
                    | (go_at_call 20; refine enTo_c (e := ov) s.h ?_; rintro w4 s4; exact Cls.end _ s4)
                    | (go_at_call 34; refine rlater_c s.h ?_; rintro w4 s4; rw [HL4.out]; exact Cls.end _ s4))))
                  clear hN6 fV fS fD
                  refine wpQuiet_nil ?_
                  rintro ⟨w6, s6⟩
                  dsimp only
                  go_wp2_with fail
                  go_meet
                  case rel => exact ⟨rfl, s6⟩
              case rest =>
              obtain ⟨rfl, sd⟩ := hcut
              obtain ⟨c0, c1, c2, c3, c4, c5, c6, c7⟩ := enL (St.pick 2 sd)
              obtain ⟨v0, v1, v2, v3, v4, v5, v6, v7⟩ := enL sd
              rcases HTR.out with h0 | h1 | h2
              · subst h0
                cases lt with
                | false =>
                  go_wp2_with fail
                  go_meet
                  case rel => exact ⟨A, q2, ks2, kb, nb, cb, rfl, HA, rfl, HKB, HI2, sd.dropN 3⟩
                | true =>
                  cases hz0 : (z == 0) with
                  | false =>
                    go_wp2_with fail
                    go_meet
                    case rel => exact ⟨A, q2, ks2, kb, nb, cb, rfl, HA, rfl, HKB, HI2, sd.dropN 3⟩
                  | true =>
                    go_wp2_with fail
                    go_meet
                    case rel => exact ⟨A, q2, ks2, kb, nb, cb, rfl, HA, rfl, HKB, HI2, sd.dropN 3⟩
              · subst h1
                have hlf : lt = false := by rw [← HLT.out]; exact (HQ.out.merge_taken HKK.out).2.2
                subst hlf
                go_wp2_with fail
                go_meet
                case rel => exact ⟨A, q2, ks2, kb, nb, cb, rfl, HA, rfl, HKB, HI2, sd.dropN 3⟩
              · subst h2
                obtain ⟨_, i2, i3, _⟩ := HQ.out.merge_woken HKK.out
                rw [HE.out] at i3
                obtain ⟨u1, u2, u3, u4, u5, u6⟩ := i3
                have hlf : lt = true := by rw [← HLT.out]; exact u1
                have hz0 : z = 0 := by rw [← HZ.out]; exact i2
                subst hlf; subst hz0
                have hgr : thas q.gr key = true := by have := u1; unfold RepV.overB at this; simp only [Bool.and_eq_true] at this; rw [← HKEY.out]; exact this.1
                have hoo : tget q.gr x.e.key = ov := by have := HOV.out; rw [if_pos hgr] at this; rw [HKEY.out]; exact this
                rw [hoo] at u2
                have hod : ov.dead = true := by obtain ⟨p, hp, _, hpg⟩ := thas_mem hgr HCO.out.ok.gr; rw [← hoo, HKEY.out, hpg]; exact (HCO.out.gr p hp).2
                have hes : e.dead = true ∧ e.sc = ov.sc ∧ e.ss = ov.ss ∧ e.age = 0 := by rw [u2]; exact ⟨hod, rfl, rfl, rfl⟩
                obtain ⟨y1, y2, y3, y4⟩ := hes
                rw [y1] at c2
                rw [y2, y3] at c3
                rw [y4] at c6
                clear y1 y2 y3 y4 u1 u2 u3 u4 u5 u6 hgr hoo hod i2
                go_wp2_with fail
                go_meet
                case rel => exact ⟨A, q2, ks2, kb, nb, cb, rfl, HA, rfl, HKB, HI2, sd.dropN 3⟩
            by_cases k3 : kd = 3
            · subst k3
              go_wp2_with (go_at_call 30; refine rtick_c HQ.out.ok (fun p hp => (HQ.out.g p hp).1) (fun p hp => (HQ.out.gr p hp).1) (St.pick 2 s5) ?_; rintro aa na ca w6 s6)
              go_meet
              case rel => exact ⟨A, q.tick, ks, ka, kn, kc, rfl, HA, rfl, hid ⟨HKN.out.1, by have := HKN.out.2; omega⟩, hid (HQ.out.tick (by have := HQC.out.1; have := HCK.out.2.2.2.2.1; unfold OfOpt at *; omega)), s6.sel [1, 3, 3]⟩
            by_cases k4 : kd = 4
            · subst k4
              obtain ⟨es, b1, b2, b3⟩ := HQ.out.reopen
              have HB1 := hid b1; have HB2 := hid b2; have HB3 := hid b3
              clear b1 b2 b3
              have lO := run_loadG agg_ropt2 (vs := o.cells) rfl (St.pick 4 s5).rowAll
              have hrm := HQC.out.2
              obtain ⟨zz, hzz⟩ : ∃ z, o.nodes * o.quota = z := ⟨_, rfl⟩
              rw [hzz] at hrm
              have HZZ := hid hzz; have HRM := hid hrm
              clear hzz hrm
              go_wp2_with (first
                | (go_at_call 26; refine of12_c s5 ?_; rintro w6 s6)
                | (go_at_call 13; refine reopen_c (o := o) HA.out HB1.out HCC.out HQC.out.1 (by have := HCK.out.1; omega) (St.pick 2 s6) (fun q2 A2 w7 hq hd s7 => ?_) (fun w7 hno s7 => ?_); have HI2 := hid (HB2.out _ hq); have HD2 := hid hd; clear hq hd; rotate_left; have HNO := hid hno; have lO3 := run_loadG agg_ropt2 (vs := o.cells) rfl (St.pick 4 s7).rowAll; clear hno; rotate_left)
                | (go_at_call 31; refine rroom_c HCK.out.1 HCK.out.2.1 s7 ?_; rintro w8 s8; rw [HZZ.out]))
              · go_meet
                case rel => exact ⟨A2, q2, ks, ka, kn, kc, rfl, HD2, rfl, hid ⟨HKN.out.1, by have := HKN.out.2; omega⟩, HI2, s7.sel [0, 2, 2]⟩
              · have hlen := HB3.out HNO.out
                rw [HRM.out] at hlen
                have dl : decide ((kn : Int) > zz) = true := decide_eq_true (by have := HKN.out.1; omega)
                have hr := HK.out _ s8.below
                rw [← dl] at hr
                exact hr
            have e0 : (kd == 0) = false := by simpa using k0
            have e1 : (kd == 1) = false := by simpa using k1
            have e2 : (kd == 2) = false := by simpa using k2
            have e3 : (kd == 3) = false := by simpa using k3
            have e4 : (kd == 4) = false := by simpa using k4
            go_wp2_with fail
            go_meet
            case rel => exact ⟨A, q, ks, ka, kn, kc, rfl, HA, rfl, hid ⟨HKN.out.1, by have := HKN.out.2; omega⟩, HQ, s5.dropN 2⟩
          case rest =>
          obtain ⟨A2, q2, ks2, ka2, kn2, kc2, rfl, HA2, rfl, HKN2, HI2, s6⟩ := hcut
          have HC2 : Hid (Core q2) := hid (by obtain ⟨es, b, _⟩ := HI2.out.es; exact b.c)
          go_wp2_with (go_at_call 33; refine graves_c HI2.out.ok s6 ?_; rintro ga2 gm gd w7 hgm s7; have HGM := hid hgm; clear hgm)
          have hgm4 : gm ≤ 4096 := by rw [HGM.out]; exact HI2.out.ok.grL
          go_loopw [191] (fun ii wr => ∃ j : Nat, j ≤ gm ∧ ii = .int .i64 j ∧ St W wr (OwnS 9 ga2 gm gd (ke2 q2.gr) :: RepA A2 q2 :: OwnS 1 ka2 kn2 kc2 (strC ks2) :: row O 0 o.cells :: [])) (fun ii _ => gm - (intOf ii).toNat)
          case atStart => exact ⟨0, Nat.zero_le _, rfl, s7⟩
          clear s7 s6
          case round => as_aux_lemma =>
            obtain ⟨j, hj, rfl, sw⟩ := hrel
            by_cases hlt2 : j < gm
            · have hj2 : (j : Int) < (gm : Int) := by omega
              have hjA : j < q2.gr.length := by rw [← HGM.out]; exact hlt2
              have rdr := OwnS.rd sw
              obtain ⟨g4, o4, rfl⟩ := rdr.addr (by omega)
              have cj := ke2_ld rdr hjA
              have hmem := List.getElem_mem hjA
              obtain ⟨p, hp⟩ : ∃ p, q2.gr[j] = p := ⟨_, rfl⟩
              rw [hp] at cj hmem
              have hold := grave_old HC2.out hmem
              obtain ⟨e, he⟩ : ∃ e, p.2 = e := ⟨_, rfl⟩
              rw [he] at cj hold
              obtain ⟨y, hy⟩ : ∃ y, tget q2.tab e.key = y := ⟨_, rfl⟩
              obtain ⟨t, ht⟩ : ∃ t, thas q2.tab e.key = t := ⟨_, rfl⟩
              rw [hy, ht] at hold
              have HY := hid hy; have HT := hid ht
              have HOLD := hid hold
              clear hp he hy ht rdr hjA hmem hold
              go_upto_region 43 with (first
                | (refine wpl_allocA rfl rfl zero_en sw ?_; rintro X w2 s2)
                | (refine wpl_storeA (vs := e.cells) rfl (.tmp 23) (.tmp 194) (by rfl) agg_en (by rfl) (by rfl) rfl (env_one _) s2 rfl ?_; rintro w3 s3; obtain ⟨c0, c1, c2, c3, c4, c5, c6, c7⟩ := enL s3)
                | (go_at_call 19; refine entry_c HI2.out.ok (St.pick 2 s3) ?_; rintro w4 s4'; rw [HY.out, HT.out]
                   have s4 : St W w4 (row X 0 e.cells :: OwnS 9 (some ⟨g4, o4, none⟩) gm gd (ke2 q2.gr) :: RepA A2 q2 :: OwnS 1 ka2 kn2 kc2 (strC ks2) :: row O 0 o.cells :: []) := s4'.perm [1, 1])
                | (refine wpl_allocA rfl rfl zero_en s4 ?_; rintro Y w5 s5)
                | (refine wpl_storeA (vs := y.cells) rfl (.tmp 24) (.tmp 200) (by rfl) agg_en (by rfl) (by rfl) rfl (env_one _) s5 rfl ?_; rintro w6 s6))
              try simp only [Act.put, List.setIfInBounds_toArray, List.set_cons_succ, List.set_cons_zero]
              have hN6 : Nonempty (Cls (fun w' => St W w' (row Y 0 y.cells :: row X 0 e.cells :: OwnS 9 (some ⟨g4, o4, none⟩) gm gd (ke2 q2.gr) :: RepA A2 q2 :: OwnS 1 ka2 kn2 kc2 (strC ks2) :: row O 0 o.cells :: []))) := Cls.inh s6
              have fX := fun s : Cls (fun w' => St W w' (row Y 0 y.cells :: row X 0 e.cells :: OwnS 9 (some ⟨g4, o4, none⟩) gm gd (ke2 q2.gr) :: RepA A2 q2 :: OwnS 1 ka2 kn2 kc2 (strC ks2) :: row O 0 o.cells :: [])) => (enL (St.pick 1 s.h)).2.2.2.2.2.2.2
              have fY := fun s : Cls (fun w' => St W w' (row Y 0 y.cells :: row X 0 e.cells :: OwnS 9 (some ⟨g4, o4, none⟩) gm gd (ke2 q2.gr) :: RepA A2 q2 :: OwnS 1 ka2 kn2 kc2 (strC ks2) :: row O 0 o.cells :: [])) => (enL s.h).2.2.2.2.2.2.2
              cases t with
              | false =>
                refine wp_region_class (fun w' => St W w' (row Y 0 y.cells :: row X 0 e.cells :: OwnS 9 (some ⟨g4, o4, none⟩) gm gd (ke2 q2.gr) :: RepA A2 q2 :: OwnS 1 ka2 kn2 kc2 (strC ks2) :: row O 0 o.cells :: [])) (by kernel_rfl) (by kernel_rfl) s6.drew ?_
                repeat (go_big_quiet_step (fail))
                clear hN6 fX fY
                refine wpQuiet_nil ?_
                rintro ⟨w8, s8⟩
                dsimp only
                go_wp2_with fail
                go_roundw
                case rel => exact ⟨j + 1, by omega, by go_num, s8.dropN 2⟩
                case measure => simp [intOf]; omega
              | true =>
                have HL5 := hid (HOLD.out rfl)
                have hfe : ∀ w, (Instr.field 35 (.agg e.cells.toArray) 3).run Tryz.prog w = .ok (.agg [Value.int .i64 e.sc, .int .i64 e.ss].toArray) w := fun w => by kernel_rfl
                have hfy : ∀ w, (Instr.field 35 (.agg y.cells.toArray) 3).run Tryz.prog w = .ok (.agg [Value.int .i64 y.sc, .int .i64 y.ss].toArray) w := fun w => by kernel_rfl
                refine wp_region_class (fun w' => St W w' (row Y 0 y.cells :: row X 0 e.cells :: OwnS 9 (some ⟨g4, o4, none⟩) gm gd (ke2 q2.gr) :: RepA A2 q2 :: OwnS 1 ka2 kn2 kc2 (strC ks2) :: row O 0 o.cells :: [])) (by kernel_rfl) (by kernel_rfl) s6.drew ?_
                repeat (go_big_quiet_step ((rename_i s; first
                  | (go_at_call 20; first | (with_reducible refine enTo_c (e := e) s.h ?_; rintro w4 s4; exact Cls.end _ s4) | (with_reducible refine enTo_c (e := y) s.h ?_; rintro w4 s4; exact Cls.end _ s4))
                  | (go_at_call 34; refine rlater_c s.h ?_; rintro w4 s4; rw [HL5.out]; exact Cls.end _ s4))))
                clear hN6 fX fY
                refine wpQuiet_nil ?_
                rintro ⟨w8, s8⟩
                dsimp only
                go_wp2_with fail
                go_roundw
                case rel => exact ⟨j + 1, by omega, by go_num, s8.dropN 2⟩
                case measure => simp [intOf]; omega
            · have hje : j = gm := by omega
              subst hje
              go_wp2_with fail
              go_roundw
              case rel => exact ⟨i + 1, A2, q2, ks2, ka2, kn2, kc2, by omega, rfl, HA2, rfl, by go_num, HI2, HKN2, sw.drop⟩
              case measure => simp [intOf]; omega
    · have hie : i = n := by omega
      subst hie
      go_wp2_with fail
      exact HK.out _ sr.below
end
end Go.Proofs.YtggbeedghblakaaGreatDoor
