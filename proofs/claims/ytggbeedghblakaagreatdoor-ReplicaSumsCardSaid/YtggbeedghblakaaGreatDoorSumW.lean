/- The sum, and what goes down: the law's walk. Printed by mkSumW.py. -/
import Derived.Test.YtggbeedghblakaaGreatDoorPlyA
import Derived.Test.YtggbeedghblakaaGreatDoorUtlA
import Derived.Test.YtggbeedghblakaaGreatDoorBelA
namespace Go.Proofs.YtggbeedghblakaaGreatDoor
open Go.RowKit Go.Qd RepV

def neEG (x y : Operand) (a b : Value) : Sem Value := do eqGuard .neq 39 x y a b; Go.binOp .neq 39 a b
theorem execOp_neE (ρ : Operand → Value) (dst : Option Tmp) (x y : Operand) (r : TypeId) (ty : TypeId) (pos : String) (after : Array Edge) (guard : Option (Nat × Bool)) :
    execOp ρ { dst, op := .binOp .neq 39 x y r, type := ty, pos, after, guard } = (do pure (.value (← neEG x y (ρ x) (ρ y)))) := by simp [execOp, neEG]
theorem run_neEs (x y : Operand) (e : EnV) (w : World) : (neEG x y (.agg e.cells.toArray) (.agg e.cells.toArray)).run Tryz.prog w = .ok (.bool false) w := by
  obtain ⟨k, v, d, sc, ss, ac, az, kp, ag⟩ := e
  unfold neEG EnV.cells
  go_simp
  try simp
theorem run_neMl (x y : Operand) (m : MkV) (w : World) : (neMG x y (.agg m.cells.toArray) (.agg #[.int .i64 0, .int .i64 0, .string ⟨#[]⟩])).run Tryz.prog w = .ok (.bool (!m.isNone)) w := run_neM0 x y m w

/-- Is a mark later? -/
def ltrM (a b : MkV) : Bool := if eq2B a.c a.s b.c b.s = true then kLt b.key a.key else ltrB a.c a.s b.c b.s
theorem ltrM_is {a b : MkV} (h : mLt a b = true) : ltrM a b = true := by
  rw [mLt_iff] at h
  unfold ltrM eq2B
  by_cases h1 : a.c = b.c ∧ a.s = b.s
  · rw [if_pos (by simp [h1])]
    rcases h with h | h
    · omega
    · exact h.2
  · rw [if_neg (by simpa using h1), ltrB_eq]
    have h2 := @cmpS_lt b.c b.s a.c a.s
    exact decide_eq_true (by omega)

theorem gt_kLt (a b : ByteArray) : (!Op.bytesLess a.toList b.toList && !(a.toList == b.toList)) = kLt b a := by
  have h1 : Op.bytesLess a.toList b.toList = kLt a b := rfl
  rw [h1]
  by_cases h : a = b
  · subst h; simp [kLt_ord.irr]
  · have h2 : (a.toList == b.toList) = false := beq_eq_false_iff_ne.2 fun e => h (toList_inj e)
    rw [h2]
    cases h3 : kLt a b with
    | true => rw [kLt_ord.asym h3]; rfl
    | false =>
      cases h4 : kLt b a with
      | true => rfl
      | false => exact absurd (kLt_ord.tri h3 h4) h

section
attribute [local go_sem ↓] execOp_ldAny execOp_neS
attribute [local go_sem] run_neS
variable {W w : World} {R : List HP} {post : Ending → World → Prop}
theorem mk2L {T : Nat} {m : MkV} (h : St W w (row T 0 m.cells :: R)) :
    (loadG 33 (.pointer (some ⟨T, 0, none⟩))).run Tryz.prog w = .ok (.agg [Value.int .i64 m.c, .int .i64 m.s].toArray) w ∧ (loadG 9 (.pointer (some ⟨T, 2, none⟩))).run Tryz.prog w = .ok (.string m.key) w := mkLOf h

set_option maxRecDepth 100000 in
set_option maxHeartbeats 2000000 in
theorem rlater10_c {a b : MkV} (st : St W w R) (K : ∀ w', St W w' R → post (.returned (.bool (ltrM a b))) w') : Calls Tryz.prog 58 #[.agg a.cells.toArray, .agg b.cells.toArray] w post := by
  unfold ltrM at K
  obtain ⟨z, hz⟩ : ∃ z, eq2B a.c a.s b.c b.s = z := ⟨_, rfl⟩
  rw [hz] at K
  cases z with
  | false =>
    replace K : ∀ w', St W w' R → post (.returned (.bool (ltrB a.c a.s b.c b.s))) w' := K
    have HK := hid K; clear K
    go_enter Tryz.func58, Tryz.ntmps58
    go_wp2_with (first
      | (refine wpl_boxA (vs := a.cells) rfl (.tmp 0) rfl rfl st ?_; rintro T w1 s1)
      | (refine wpl_boxA (vs := b.cells) rfl (.tmp 1) rfl rfl s1 ?_; rintro U w2 s2; obtain ⟨c0, c1⟩ := mk2L s2; obtain ⟨d0, d1⟩ := mk2L (St.pick 1 s2))
      | (go_at_call 34; refine rlater_c s2 ?_; rintro w3 s3))
    exact HK.out _ (s3.dropN 2)
  | true =>
    replace K : ∀ w', St W w' R → post (.returned (.bool (kLt b.key a.key))) w' := K
    rw [← gt_kLt] at K
    have HK := hid K; clear K
    go_enter Tryz.func58, Tryz.ntmps58
    go_wp2_with (first
      | (refine wpl_boxA (vs := a.cells) rfl (.tmp 0) rfl rfl st ?_; rintro T w1 s1)
      | (refine wpl_boxA (vs := b.cells) rfl (.tmp 1) rfl rfl s1 ?_; rintro U w2 s2; obtain ⟨c0, c1⟩ := mk2L s2; obtain ⟨d0, d1⟩ := mk2L (St.pick 1 s2)))
    exact HK.out _ (s2.dropN 2)

set_option maxRecDepth 100000 in
set_option maxHeartbeats 2000000 in
theorem rmark12_c {e : EnV} (st : St W w R) (K : ∀ w', St W w' R → post (.returned (.agg e.mark.cells.toArray)) w') : Calls Tryz.prog 60 #[.agg e.cells.toArray] w post := by
  have HK := hid K; clear K
  go_enter Tryz.func60, Tryz.ntmps60
  go_wp2_with (first
    | (refine wpl_boxA (vs := e.cells) rfl (.tmp 0) rfl rfl st ?_; rintro T w1 s1)
    | (refine wpl_allocA (vs := MkV.none.cells) rfl rfl (fun _ => by kernel_rfl) s1 ?_; rintro U w2 s2; obtain ⟨c0, c1, c2, c3, c4, c5, c6⟩ := enLOf (St.pick 1 s2))
    | (refine wpl_build rfl rfl (v := .agg e.mark.cells.toArray) (by kernel_rfl) ?_)
    | (refine wpl_storeA (vs := e.mark.cells) rfl (.tmp 2) (.tmp 7) (by rfl) agg_rmk (by rfl) (by rfl) rfl (mk_one _) s2 rfl ?_; rintro w3 s3))
  have hL := run_loadA agg_rmk (vs := e.mark.cells) rfl s3.rowAll
  exact bodyPost_ret (v := .agg e.mark.cells.toArray) (by simp [results, Tryz.results60, asAddr, hL, Act.put]) rfl (HK.out _ (s3.dropN 2))
end

section
attribute [local go_sem ↓] execOp_ldAny execOp_neE execOp_neM
attribute [local go_sem] run_neEs run_neM0 run_neMl
variable {W : World} {post : Ending → World → Prop}
theorem rocheck5_c {w : World} {R : List HP} {o : OptV} (st : St W w R) (K1 : ∀ w', St W w' R → post (.returned (.int .i64 14)) w') (K0 : o.check = 0 → ∀ w', St W w' R → post (.returned (.int .i64 0)) w') : Calls Tryz.prog 25 #[.agg o.cells.toArray] w post := rocheck_c st K0 K1

set_option maxRecDepth 100000 in
set_option maxHeartbeats 16000000 in
theorem sums_law_c {a : Option Addr} {n c : Nat} {l : List RAct} {o : OptV} {t : Nat} (hf : FirstW W) (rd : RdS W 12 a n c (ractC l)) (ht : t ≤ 255)
    (K : ∀ w', Below W.heap.size W w' → post (.returned (.bool true)) w') :
    Calls Tryz.prog 11 #[.agg o.cells.toArray, .slice a n c, .int .u8 t] W post := by
  have HK := hid K; clear K
  have HF := hid hf; have HRD := hid rd
  have hbig := rd.big
  have HBIG := hid hbig
  obtain ⟨r7, hr7⟩ : ∃ r, t % 7 = r := ⟨_, rfl⟩
  have w0 : IntKind.i64.wrap (t : Int) = (t : Int) := IntWalk.i64_in _ (by omega)
  have w7 : Int.tmod (t : Int) 7 = (r7 : Int) := by rw [Int.tmod_eq_emod_of_nonneg (by omega)]; omega
  have w8 : IntKind.i64.wrap (1 + (r7 : Int)) = ((1 + r7 : Nat) : Int) := by rw [IntWalk.i64_in _ (by omega)]; push_cast; rfl
  obtain ⟨k, hk⟩ : ∃ k, 1 + r7 = k := ⟨_, rfl⟩
  rw [hk] at w8
  have hk1 : 1 ≤ k := by omega
  clear hf rd hr7 hk
  go_enter Tryz.func11, Tryz.ntmps11
  go_wp2_with (first
    | (refine wpl_boxA (vs := o.cells) rfl (.tmp 0) rfl rfl (St.init W) ?_; rintro O w1 s1)
    | (go_at_call 12; have gg := s4; refine speaks_c HF.out s4 ?_; rintro w9 s9)
    | (go_at_call 12; have gg := s3; refine speaks_c HF.out s3 ?_; rintro w9 s9)
    | (go_at_call 12; refine speaks_c HF.out s1 ?_; rintro w2 s2)
    | (go_at_call 24; refine few12_c (HRD.out.rds _) HBIG.out s2 ?_; rintro (_ | _) w3 hb s3; all_goals (have HFW := hid hb; clear hb; have lO := run_loadG agg_ropt3 (vs := o.cells) rfl s3.rowAll))
    | (go_at_call 25; refine rocheck5_c s3 (fun w4 s4 => ?_) (fun hc w4 s4 => ?_); rotate_left; have lO2 := run_loadG agg_ropt3 (vs := o.cells) rfl s4.rowAll; rotate_left)
    | (go_at_call 37; refine play_c HF.out hc (HRD.out.rds _) HBIG.out s4 ?_; rintro A q w5 HQ s5))
  · exact HK.out _ s9.below
  · exact HK.out _ s9.below
  have s6 : St W w5 (RepA A q :: row O 0 o.cells :: []) := s5
  have HCO := hid HQ.out.core
  clear s1 s2 s3 s4 s5 lO lO2 HFW hc
  obtain ⟨N, hN⟩ : ∃ N, q.tab.length = N := ⟨_, rfl⟩
  have hN4 : N ≤ 4096 := by rw [← hN]; have := HCO.out.ok.len; have := HCO.out.ok.room; omega
  have HN := hid hN
  have HIX : Hid (q.ix.length = N) := hid (by rw [HCO.out.ok.ixN, hN])
  have HSU : Hid (tosK (q.tab.map (·.2)) = q.sum) := hid (by rw [sum_is]; exact HCO.out.sum.symm)
  have w9 : IntKind.i64.wrap ((N : Int) + 1) = ((N + 1 : Nat) : Int) := by rw [IntWalk.i64_in _ (by omega)]; push_cast; rfl
  obtain ⟨N1, hN1⟩ : ∃ N1, N + 1 = N1 := ⟨_, rfl⟩
  rw [hN1] at w9
  clear hN
  go_wp2_with (first
    | (go_at_call 23; refine entries_c HCO.out.ok s6 ?_; rintro ea en ec w7' hen s7; rw [HN.out] at hen; replace hen := hen.symm; subst hen)
    | (go_at_call 39; refine rsum_c (St.pick 1 s7) ?_)
    | (go_at_call 57; refine sumsOf_c (l := q.tab.map (·.2)) (fun _ s => OwnS.rd s) hN4 s7 ?_; rintro w8' s8; rw [HSU.out])
    | (refine wpl_build rfl rfl (v := .agg MkV.none.cells.toArray) (by kernel_rfl) ?_)
    | (refine wpl_allocA (vs := MkV.none.cells) rfl rfl (fun _ => by kernel_rfl) s8 ?_; rintro P w9' s9)
    | (refine wpl_storeA (vs := MkV.none.cells) rfl (.tmp 9) (.tmp 41) (by rfl) agg_mk (by rfl) (by rfl) rfl (mk_one _) s9 rfl ?_; rintro wA sA))
  have sB : St W wA (row P 0 MkV.none.cells :: OwnS 9 ea N ec (ke2 q.tab) :: RepA A q :: row O 0 o.cells :: []) := sA
  clear s6 s7 s8 s9 sA
  go_loopw [10, 45] (fun cc ii wr => ∃ (i c0 : Nat) (atm : MkV), i ≤ N1 ∧ cc = .int .i64 c0 ∧ ii = .int .i64 i ∧ Hid (AtM q.ix atm c0 ∧ i ≤ c0) ∧ St W wr (row P 0 atm.cells :: OwnS 9 ea N ec (ke2 q.tab) :: RepA A q :: row O 0 o.cells :: [])) (fun _ ii _ => N1 - (intOf ii).toNat)
  case atStart => exact ⟨0, 0, _, Nat.zero_le _, rfl, rfl, hid ⟨AtM.start _, Nat.le_refl _⟩, sB⟩
  clear sB
  case round =>
    obtain ⟨i, c0, atm, hi, rfl, rfl, HI, sr⟩ := hrel
    by_cases hlt : i < N1
    · have hi2 : (i : Int) < (N1 : Int) := by omega
      have lP := run_loadG agg_mk (vs := atm.cells) rfl sr.rowAll
      obtain ⟨L, hL⟩ : ∃ L, belowL q.ix atm ((k : Int).toNat) = L := ⟨_, rfl⟩
      have hLd : L = (q.ix.drop c0).take k := by
        rw [← hL]; unfold belowL
        rw [AtM.rest HCO.out.ok.ix.srt (fun x hx => (HCO.out.marks x hx).2.2) HI.out.1, Int.toNat_natCast]
      have hc0 : c0 ≤ N := by have := HI.out.1.1; rw [HIX.out] at this; exact this
      have HL := hid hL; have HLD := hid hLd
      have HLN : Hid (L.length = min k (N - c0)) := hid (by rw [hLd, List.length_take, List.length_drop, HIX.out])
      clear hL hLd
      go_wp2_with (go_at_call 54; refine rbelow_c HCO.out (St.pick 2 sr) ?_; rintro pa pn pc w2 hpn s2; rw [HL.out] at hpn s2; have HPN := hid hpn; clear hpn)
      have s3 : St W w2 (row P 0 atm.cells :: OwnS 9 pa pn pc (enC (L.map fun x => tget q.tab x.key)) :: OwnS 9 ea N ec (ke2 q.tab) :: RepA A q :: row O 0 o.cells :: []) := s2.perm [2, 0, 1, 0]
      have hpn4 : pn ≤ N := by have h1 := HLN.out; have h2 := HPN.out; omega
      clear s2 lP
      go_loopw [10, 56] (fun cc ii wr => ∃ (j : Nat) (atm2 : MkV), j ≤ pn ∧ cc = .int .i64 ((c0 + j : Nat) : Int) ∧ ii = .int .i64 j ∧ Hid (AtM q.ix atm2 (c0 + j)) ∧ St W wr (row P 0 atm2.cells :: OwnS 9 pa pn pc (enC (L.map fun x => tget q.tab x.key)) :: OwnS 9 ea N ec (ke2 q.tab) :: RepA A q :: row O 0 o.cells :: [])) (fun _ ii _ => pn - (intOf ii).toNat)
      case atStart => exact ⟨0, atm, Nat.zero_le _, rfl, rfl, hid HI.out.1, s3⟩
      clear s3
      case round =>
        obtain ⟨j, atm2, hj, rfl, rfl, HA, sw⟩ := hrel
        by_cases hlt2 : j < pn
        · have hj2 : (j : Int) < (pn : Int) := by omega
          have hjL : j < L.length := by rw [← HPN.out]; exact hlt2
          have rdr := OwnS.rd (St.pick 1 sw)
          obtain ⟨g3, o3, hpa⟩ := rdr.addr (by omega)
          subst hpa
          have cj := enC_ld rdr (i := j) (by simpa using hjL)
          simp only [List.getElem_map] at cj
          have hxi : q.ix[c0 + j]? = some L[j] := by
            have h1 : L[j]? = some L[j] := List.getElem?_eq_getElem hjL
            rw [← h1]
            conv => rhs; rw [HLD.out]
            rw [List.getElem?_take, List.getElem?_drop]
            have h2 := HLN.out
            rw [if_pos (by omega)]
          obtain ⟨x, hx⟩ : ∃ x, L[j] = x := ⟨_, rfl⟩
          rw [hx] at cj hxi
          obtain ⟨e, he⟩ : ∃ e, tget q.tab x.key = e := ⟨_, rfl⟩
          rw [he] at cj
          obtain ⟨m1, m2, m3⟩ := HCO.out.marks x (List.mem_of_getElem? hxi)
          rw [he] at m2
          have hek : e.key = x.key := by rw [← m2]; rfl
          have HT : Hid (thas q.tab e.key = true) := hid (by rw [hek]; exact m1)
          have HE : Hid (tget q.tab e.key = e) := hid (by rw [hek]; exact he)
          have HLT : Hid (atm2.isNone = true ∨ ltrM atm2 e.mark = true) := hid (by
            rcases HA.out.later HCO.out.ok.ix.srt hxi with h | h
            · exact .inl h
            · right; rw [m2]; exact ltrM_is h)
          have HST : Hid (AtM q.ix e.mark (c0 + (j + 1))) := hid (by rw [m2]; exact HA.out.step hxi)
          have wc : IntKind.i64.wrap (((c0 + j : Nat) : Int) + 1) = ((c0 + (j + 1) : Nat) : Int) := by rw [IntWalk.i64_in _ (by omega)]; push_cast; omega
          clear rdr hjL hx he m1 m2 m3 hek hxi
          go_upto_region 17 with (first
            | (refine wpl_allocA rfl rfl zero_en sw ?_; rintro X w2 s2)
            | (refine wpl_storeA (vs := e.cells) rfl (.tmp 13) (.tmp 59) (by rfl) agg_en (by rfl) (by rfl) rfl (env_one _) s2 rfl ?_; rintro w3 s3; obtain ⟨c0', c1, c2, c3, c4, c5, c6, c7⟩ := enL s3)
            | (go_at_call 19; refine entry_c HCO.out.ok (St.pick 4 s3) ?_; rintro w4 s4'; rw [HT.out, HE.out]
               have s4 : St W w4 (row X 0 e.cells :: row P 0 atm2.cells :: OwnS 9 (some ⟨g3, o3, none⟩) pn pc (enC (L.map fun x => tget q.tab x.key)) :: OwnS 9 ea N ec (ke2 q.tab) :: RepA A q :: row O 0 o.cells :: []) := s4'.perm [1, 1, 1, 1])
            | (refine wpl_allocA rfl rfl zero_en s4 ?_; rintro Y w5' s5)
            | (refine wpl_storeA (vs := e.cells) rfl (.tmp 14) (.tmp 65) (by rfl) agg_en (by rfl) (by rfl) rfl (env_one _) s5 rfl ?_; rintro w6 s6))
          try simp only [Act.put, List.setIfInBounds_toArray, List.set_cons_succ, List.set_cons_zero]
          clear s2 s3 s4' s4 s5 c0' c1 c2 c3 c4 c5 c6 c7 cj
          go_cut [87] (fun v wx => v = .bool false ∧ St W wx (row Y 0 e.cells :: row X 0 e.cells :: row P 0 atm2.cells :: OwnS 9 (some ⟨g3, o3, none⟩) pn pc (enC (L.map fun x => tget q.tab x.key)) :: OwnS 9 ea N ec (ke2 q.tab) :: RepA A q :: row O 0 o.cells :: []))
          case first =>
            have hN6 : Nonempty (Cls (fun w' => St W w' (row Y 0 e.cells :: row X 0 e.cells :: row P 0 atm2.cells :: OwnS 9 (some ⟨g3, o3, none⟩) pn pc (enC (L.map fun x => tget q.tab x.key)) :: OwnS 9 ea N ec (ke2 q.tab) :: RepA A q :: row O 0 o.cells :: []))) := Cls.inh s6
            have fY := fun s : Cls (fun w' => St W w' (row Y 0 e.cells :: row X 0 e.cells :: row P 0 atm2.cells :: OwnS 9 (some ⟨g3, o3, none⟩) pn pc (enC (L.map fun x => tget q.tab x.key)) :: OwnS 9 ea N ec (ke2 q.tab) :: RepA A q :: row O 0 o.cells :: [])) => (enL s.h).2.2.2.2.2.2.2
            have fX := fun s : Cls (fun w' => St W w' (row Y 0 e.cells :: row X 0 e.cells :: row P 0 atm2.cells :: OwnS 9 (some ⟨g3, o3, none⟩) pn pc (enC (L.map fun x => tget q.tab x.key)) :: OwnS 9 ea N ec (ke2 q.tab) :: RepA A q :: row O 0 o.cells :: [])) => (enL (St.pick 1 s.h)).2.2.2.2.2.2.2
            have fP := fun s : Cls (fun w' => St W w' (row Y 0 e.cells :: row X 0 e.cells :: row P 0 atm2.cells :: OwnS 9 (some ⟨g3, o3, none⟩) pn pc (enC (L.map fun x => tget q.tab x.key)) :: OwnS 9 ea N ec (ke2 q.tab) :: RepA A q :: row O 0 o.cells :: [])) => run_loadG agg_mk (vs := atm2.cells) rfl (St.pick 2 s.h).rowAll
            cases hno : atm2.isNone with
            | true =>
              refine wp_region_class (fun w' => St W w' (row Y 0 e.cells :: row X 0 e.cells :: row P 0 atm2.cells :: OwnS 9 (some ⟨g3, o3, none⟩) pn pc (enC (L.map fun x => tget q.tab x.key)) :: OwnS 9 ea N ec (ke2 q.tab) :: RepA A q :: row O 0 o.cells :: [])) (by kernel_rfl) (by kernel_rfl) s6.drew ?_
              repeat (go_big_quiet_step (fail))
              clear hN6 fX fY fP
              refine wpQuiet_nil ?_
              rintro ⟨w8, s8⟩
              dsimp only
              go_wp2_with fail
              go_meet
              case rel => exact ⟨rfl, s8⟩
            | false =>
              have HLM : Hid (ltrM atm2 e.mark = true) := hid (by rcases HLT.out with h | h; rw [hno] at h; cases h; exact h)
              refine wp_region_class (fun w' => St W w' (row Y 0 e.cells :: row X 0 e.cells :: row P 0 atm2.cells :: OwnS 9 (some ⟨g3, o3, none⟩) pn pc (enC (L.map fun x => tget q.tab x.key)) :: OwnS 9 ea N ec (ke2 q.tab) :: RepA A q :: row O 0 o.cells :: [])) (by kernel_rfl) (by kernel_rfl) s6.drew ?_
              repeat (go_big_quiet_step ((rename_i s; first
                | (go_at_call 59; refine mkTo_c (m := atm2) s.h ?_; rintro w4 s4; exact Cls.end _ s4)
                | (go_at_call 20; refine enTo_c (e := e) s.h ?_; rintro w4 s4; exact Cls.end _ s4)
                | (go_at_call 60; refine rmark12_c (e := e) s.h ?_; rintro w4 s4; exact Cls.end _ s4)
                | (go_at_call 58; refine rlater10_c (a := atm2) (b := e.mark) s.h ?_; rintro w4 s4; rw [HLM.out]; exact Cls.end _ s4))))
              clear hN6 fX fY fP
              refine wpQuiet_nil ?_
              rintro ⟨w8, s8⟩
              dsimp only
              go_wp2_with fail
              go_meet
              case rel => exact ⟨rfl, s8⟩
          case rest =>
          obtain ⟨rfl, s7⟩ := hcut
          obtain ⟨c0', c1, c2, c3, c4, c5, c6, c7⟩ := enL (St.pick 1 s7)
          go_wp2_with (first
            | (refine wpl_build rfl rfl (v := .agg e.mark.cells.toArray) (by kernel_rfl) ?_)
            | (refine wpl_storeA (vs := e.mark.cells) rfl (.tmp 9) (.tmp 92) (by rfl) agg_mk (by rfl) (by rfl) rfl (mk_one _) (St.pick 2 s7) rfl ?_; rintro w8 s8))
          go_roundw
          case rel => exact ⟨j + 1, e.mark, by omega, by rfl, by go_num, HST, s8.sel [0, 2, 2, 2, 2]⟩
          case measure => simp [intOf]; omega
        · have hje : j = pn := by omega
          subst hje
          by_cases hz : j = 0
          · subst hz
            have hcN : c0 = N := by have h1 := HLN.out; have h2 := HPN.out; omega
            subst hcN
            go_wp2_with fail
            have hk9 := HK.out _ sw.below
            simpa using hk9
          · have hzb : decide ((j : Int) = 0) = false := decide_eq_false (by omega)
            have hz2 : ((j : Int) == 0) = false := by simp; exact hz
            go_wp2_with fail
            go_roundw
            case rel => exact ⟨i + 1, c0 + j, atm2, by omega, rfl, by go_num, hid ⟨HA.out, by have := HI.out.2; omega⟩, (sw.pick 1).drop⟩
            case measure => simp [intOf]; omega
    · exfalso
      have h1 := HI.out.2
      have h2 := HI.out.1.1
      rw [HIX.out] at h2
      omega
end
end Go.Proofs.YtggbeedghblakaaGreatDoor
