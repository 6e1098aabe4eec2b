/- RovD: several texts, joined. The document's overlay: Take. Printed by mkROK.py. -/
import Derived.Test.YtbpdchaeakihkaaGreatROI
import Derived.Test.YtbpdchaeakihkaaGreatRovC
namespace Go.Proofs.YtbpdchaeakihkaaGreat
open Go.RowKit Go.Qd

theorem execOp_bM12 (ρ : Operand → Value) (dst : Option Tmp) (a b c : Operand) (ty : TypeId) (pos : String) (after : Array Edge) (guard : Option (Nat × Bool)) :
    execOp ρ { dst, op := .build 75 #[(0, a), (1, b), (2, c)], type := ty, pos, after, guard } = (do pure (.value (← bldM #[(0, ρ a), (1, ρ b), (2, ρ c)]))) := by simp [execOp, bldM]
def fwdB (p hops : Int) : MsgV := { kindM 2 with peer := p, hops := hops }
theorem run_bM12 (p hops : Int) (w : World) : (bldM #[(0, .int .i64 2), (1, .int .i64 p), (2, .int .i64 hops)]).run Tryz.prog w = .ok (.agg (fwdB p hops).cells.toArray) w := by kernel_rfl
theorem fresh2 (O : OV) : freshO (freshO O) = freshO O := rfl
theorem oth1 (O : OV) (p : Int) : othersL O [p, p] = othersL O [p] := by
  unfold othersL
  refine List.filter_congr fun z _ => ?_
  have : memB [p, p] z = memB [p] z := by
    by_cases h : z = p
    · rw [memB_yes (by simp [h]), memB_yes (by simp [h])]
    · rw [memB_no (by simp [h]), memB_no (by simp [h])]
  rw [this]
structure LenOK (O : OV) : Prop where
  c : O.cfg.length = 20
  h : O.heard.length = 12
theorem LenOK.ro' {O : OV} (h : LenOK O) : O.cfg.length = 20 ∧ O.heard.length = 12 := ⟨h.c, h.h⟩
theorem OOK.len {O : OV} (h : OOK O) : LenOK O := ⟨h.cl, h.hl⟩
theorem forward_ok {O : OV} (h : OOK O) (p : Int) (m : MsgV) (pa : Option Addr) (pc : Nat) : LenOK (forwardO O p m pa pc) := by
  unfold forwardO
  split
  · exact h.len
  · split
    · split
      · exact h.len
      · exact ⟨(h.raise m.peer).cl, (h.raise m.peer).hl⟩
    · unfold passO
      split
      · exact ⟨(h.learn m.peer).cl, (h.learn m.peer).hl⟩
      · exact ⟨h.cl, h.hl⟩
theorem shuffle_ok {O : OV} (h : OOK O) (p : Int) (m : MsgV) (pa : Option Addr) (pn pc : Nat) : LenOK (shuffleO O p m pa pn pc) := by
  unfold shuffleO
  split
  · exact h.len
  · split
    · exact ⟨h.cl, h.hl⟩
    · unfold swapO
      exact (OOK.learnAll (O := { O with D := _, L := _ }) (h.put _ _) _).len
theorem fwdL_snoc (O : OV) (p : Int) {l : List Int} {i : Nat} (h : i < l.length) : fwdL O p (l.take (i + 1)) = fwdL O p (l.take i) ++ [⟨l[i], fwdM O p⟩] := by
  unfold fwdL; rw [List.take_succ_eq_append_getElem h, List.map_append]; rfl

section
variable {W w : World} {R : List HP} {post : Ending → World → Prop} {x : RO} {p : Int} {m : MsgV} {ks : List MkV} {es : List EnV}
attribute [local go_sem ↓] execOp_bM1 execOp_bM12 execOp_ldRO execOp_stRO execOp_ldRM2 execOp_ldV
attribute [local go_sem] run_bM1 run_bM12

set_option maxRecDepth 100000 in
set_option maxHeartbeats 16000000 in
theorem rtakeO_no (h : OOK x.o) (hb : onodeB x.o p = false) (hps : RdS W 1 m.pa m.pn m.pc (ivs m.ps)) (hma : RdS W 3 m.ma m.mn m.mq (mkC ks)) (hea : RdS W 9 m.ea m.en m.eq (enC es))
    (st : St W w (x.mem W :: R)) (K : ∀ (x' : RO) e w', x'.o = freshO x.o → e = 1 → St W w' (x'.mem W :: R) → post (.returned (.tuple #[.agg x'.cells.toArray, .int .i64 e])) w') :
    Calls Tryz.prog 74 #[.agg x.cells.toArray, .int .i64 p, .agg m.cells.toArray] w post := by
  have HO := hid h
  have HH := hid h.ro
  have HPS := hid hps; have HMA := hid hma; have HEA := hid hea
  have HB := hid hb
  have HK := hid K; clear K
  clear h hb hps hma hea
  go_enter Tryz.func74, Tryz.ntmps74
  go_wp2_with (first
    | (refine wpl_boxA (vs := x.cells) rfl (.tmp 0) rfl rfl st ?_; rintro B w1 s1)
    | (refine wpl_boxA (vs := m.cells) rfl (.tmp 2) rfl rfl s1 ?_; rintro M w2 s2)
    | (refine wpl_allocA rfl rfl zeroRO_z s2 ?_; rintro E w3 s3; have lx := roLd HH.out (St.pick 2 s3))
    | (go_at_call 116; refine rfresh_c HH.out (St.pick 3 s3) ?_; rintro y w4 hy s4
       have HY := hid hy
       have HYO := hid (HO.out.freshRO hy)
       clear hy s3 lx)
    | (refine wpl_storeA (vs := y.cells) rfl (.tmp 3) (.tmp 12) (by rfl) aggRO (by rfl) (by rfl) (RO.len HYO.out.ro) (RO.one _) (St.pick 3 s4) (RO.len HH.out) ?_; rintro w5 s5; have ly := roLd HYO.out.ro s5)
    | (go_at_call 117; refine rnodeO_c HYO.out.ro s5 ?_; rw [HY.out, show onodeB (freshO x.o) p = false from HB.out]; clear ly s5; rintro w5 s5; have ly := roLd HYO.out.ro s5; have lm := run_loadG (o := 0) aggRM2 rfl (St.pick 3 s5).rowAll
       have rS := run_storeG aggRO (b := E) (o := 0) ((St.pick 2 s5).roomG zeroRO_len) (RO.oneG HYO.out.ro)
       have s9 := (St.pick 2 s5).setAll (vs := y.cells) (by rw [RO.len HYO.out.ro, zeroRO_len]))
    | fail)
  have hL := run_loadA aggRO (RO.len HYO.out.ro) s9.rowAll
  exact bodyPost_ret (v := .tuple #[.agg y.cells.toArray, .int .i64 1]) (by simp [results, Tryz.results74, asAddr, hL]) rfl (HK.out y 1 _ HY.out rfl (St.drop (St.pick 1 (s9.dropN 2))))

set_option maxRecDepth 100000 in
set_option maxHeartbeats 16000000 in
theorem rtakeO_bad (h : OOK x.o) (hb : onodeB x.o p = true) (hf : rfitsB x.o m ks es = false) (hps : RdS W 1 m.pa m.pn m.pc (ivs m.ps)) (hma : RdS W 3 m.ma m.mn m.mq (mkC ks)) (hea : RdS W 9 m.ea m.en m.eq (enC es))
    (st : St W w (x.mem W :: R)) (K : ∀ (x' : RO) e w', x'.o = freshO x.o → e = 4 → St W w' (x'.mem W :: R) → post (.returned (.tuple #[.agg x'.cells.toArray, .int .i64 e])) w') :
    Calls Tryz.prog 74 #[.agg x.cells.toArray, .int .i64 p, .agg m.cells.toArray] w post := by
  have HO := hid h
  have HH := hid h.ro
  have HPS := hid hps; have HMA := hid hma; have HEA := hid hea
  have HB := hid hb
  have HF := hid hf
  have HK := hid K; clear K
  clear h hb hf hps hma hea
  go_enter Tryz.func74, Tryz.ntmps74
  go_wp2_with (first
    | (refine wpl_boxA (vs := x.cells) rfl (.tmp 0) rfl rfl st ?_; rintro B w1 s1)
    | (refine wpl_boxA (vs := m.cells) rfl (.tmp 2) rfl rfl s1 ?_; rintro M w2 s2)
    | (refine wpl_allocA rfl rfl zeroRO_z s2 ?_; rintro E w3 s3; have lx := roLd HH.out (St.pick 2 s3))
    | (go_at_call 116; refine rfresh_c HH.out (St.pick 3 s3) ?_; rintro y w4 hy s4
       have HY := hid hy
       have HYO := hid (HO.out.freshRO hy)
       clear hy s3 lx)
    | (refine wpl_storeA (vs := y.cells) rfl (.tmp 3) (.tmp 12) (by rfl) aggRO (by rfl) (by rfl) (RO.len HYO.out.ro) (RO.one _) (St.pick 3 s4) (RO.len HH.out) ?_; rintro w5 s5; have ly := roLd HYO.out.ro s5)
    | (go_at_call 117; refine rnodeO_c HYO.out.ro s5 ?_; rw [HY.out, show onodeB (freshO x.o) p = true from HB.out]; clear ly s5; rintro w5 s5; have ly := roLd HYO.out.ro s5; have lm := run_loadG (o := 0) aggRM2 rfl (St.pick 3 s5).rowAll)
    | (go_at_call 122; refine rfits_c (ks := ks) (es := es) HYO.out.ro (HPS.out.rds _) (HMA.out.rds _) (HEA.out.rds _) s5 ?_; rw [HY.out, show rfitsB (freshO x.o) m ks es = false from HF.out]; clear ly lm s5; rintro w6 s6; have lz := roLd HYO.out.ro s6
       have rS := run_storeG aggRO (b := E) (o := 0) ((St.pick 2 s6).roomG zeroRO_len) (RO.oneG HYO.out.ro)
       have s9 := (St.pick 2 s6).setAll (vs := y.cells) (by rw [RO.len HYO.out.ro, zeroRO_len]))
    | fail)
  have hL := run_loadA aggRO (RO.len HYO.out.ro) s9.rowAll
  exact bodyPost_ret (v := .tuple #[.agg y.cells.toArray, .int .i64 4]) (by simp [results, Tryz.results74, asAddr, hL]) rfl (HK.out y 4 _ HY.out rfl (St.drop (St.pick 1 (s9.dropN 2))))

set_option maxRecDepth 100000 in
set_option maxHeartbeats 16000000 in
theorem rtakeO_yes (h : OOK x.o) (hb : onodeB x.o p = true) (hf : rfitsB x.o m ks es = true) {k : Nat} (h1 : 1 ≤ k) (h9 : k ≤ 9) (hk : m.kind = k) (hho : 0 ≤ m.hops ∧ m.hops ≤ 1000) (hpe : 0 ≤ m.peer ∧ m.peer < 12) (hpn : m.pn ≤ 8) (hps : RdS W 1 m.pa m.pn m.pc (ivs m.ps)) (hma : RdS W 3 m.ma m.mn m.mq (mkC ks)) (hea : RdS W 9 m.ea m.en m.eq (enC es))
    (st : St W w (x.mem W :: R)) (K : ∀ (x' : RO) e pa pn pc w', x'.o = takeO (freshO x.o) p m k pa pn pc → e = 0 → St W w' (x'.mem W :: R) → post (.returned (.tuple #[.agg x'.cells.toArray, .int .i64 e])) w') :
    Calls Tryz.prog 74 #[.agg x.cells.toArray, .int .i64 p, .agg m.cells.toArray] w post := by
  have HO := hid h
  have HH := hid h.ro
  have HPS := hid hps; have HMA := hid hma; have HEA := hid hea
  have HB := hid hb
  have HF := hid hf
  have HHO := hid hho; have HPE := hid hpe; have HPN := hid hpn
  have HK := hid K; clear K
  have hp := there_lt h (onode_there hb)
  obtain ⟨kp, rfl⟩ := Int.eq_ofNat_of_zero_le hp.1
  have hkp : kp < 12 := by omega
  have hkz : (0 : Int) ≤ (kp : Int) := hp.1
  have hkt : (kp : Int) < 12 := hp.2
  have HPL : Hid (m.ps.length = m.pn) := hid (ivs_len hps)
  obtain ⟨H, hH⟩ : ∃ H, heardO (freshO x.o) (kp : Int) = H := ⟨_, rfl⟩
  have HHE := hid hH
  have HHO2 : Hid (OOK H ∧ H.L.length ≤ 0 ∧ H.C.length ≤ 0) := hid (by
    rw [← hH]
    refine ⟨(OOK.fresh h).heard _, by rw [heard_L]; exact Nat.le_refl _, ?_⟩
    have : (heardO (freshO x.o) (kp : Int)).C = [] := by unfold heardO learnO; split <;> rfl
    rw [this]; exact Nat.le_refl _)
  clear h hb hf hho hpe hpn hps hma hea hp hH
  have hcase : k = 1 ∨ k = 2 ∨ k = 3 ∨ k = 4 ∨ k = 5 ∨ k = 6 ∨ k = 7 ∨ k = 8 ∨ k = 9 := by omega
  have HKD := hid hk
  clear hk h1 h9
  rcases hcase with rfl | rfl | rfl | rfl | rfl | rfl | rfl | rfl | rfl
  · go_enter Tryz.func74, Tryz.ntmps74
    go_wp2_with (first
      | (refine wpl_boxA (vs := x.cells) rfl (.tmp 0) rfl rfl st ?_; rintro B w1 s1)
      | (refine wpl_boxA (vs := m.cells) rfl (.tmp 2) rfl rfl s1 ?_; rintro M w2 s2)
      | (refine wpl_allocA rfl rfl zeroRO_z s2 ?_; rintro E w3 s3; have lx := roLd HH.out (St.pick 2 s3))
      | (go_at_call 116; refine rfresh_c HH.out (St.pick 3 s3) ?_; rintro y w4 hy s4
         have HY := hid hy
         have HYO := hid (HO.out.freshRO hy)
         clear hy s3 lx)
      | (refine wpl_storeA (vs := y.cells) rfl (.tmp 3) (.tmp 12) (by rfl) aggRO (by rfl) (by rfl) (RO.len HYO.out.ro) (RO.one _) (St.pick 3 s4) (RO.len HH.out) ?_; rintro w5 s5; have ly := roLd HYO.out.ro s5)
      | (go_at_call 117; refine rnodeO_c HYO.out.ro s5 ?_; rw [HY.out, show onodeB (freshO x.o) (kp : Int) = true from HB.out]; clear ly s5; rintro w5 s5; have ly := roLd HYO.out.ro s5; have lm := run_loadG (o := 0) aggRM2 rfl (St.pick 3 s5).rowAll)
      | (go_at_call 122; refine rfits_c (ks := ks) (es := es) HYO.out.ro (HPS.out.rds _) (HMA.out.rds _) (HEA.out.rds _) s5 ?_; rw [HY.out, show rfitsB (freshO x.o) m ks es = true from HF.out]; clear ly lm s5; rintro w6 s6; have lz := roLd HYO.out.ro s6)
      | (go_at_call 73; refine rhearO_yes HYO.out (by rw [HY.out]; exact HB.out) (St.pick 1 s6) ?_; rintro z w7 hz s7
         have HZ : Hid (z.o = H) := hid (by rw [hz, HY.out, fresh2]; exact HHE.out)
         have HZO : Hid (OOK z.o ∧ z.o.L.length ≤ 900 ∧ z.o.C.length ≤ 900) := hid (by rw [HZ.out]; exact ⟨HHO2.out.1, Nat.le_trans HHO2.out.2.1 (Nat.zero_le _), Nat.le_trans HHO2.out.2.2 (Nat.zero_le _)⟩)
         clear hz lz s6)
      | (refine wpl_storeA (vs := z.cells) rfl (.tmp 3) (.tmp 27) (by rfl) aggRO (by rfl) (by rfl) (RO.len HZO.out.1.ro) (RO.one _) (St.pick 1 s7) (RO.len HYO.out.ro) ?_; rintro w8 s8
         have lz := roLd HZO.out.1.ro s8
         obtain ⟨e0, e1, e2, e3, e4, _⟩ := msgC (St.pick 3 s8)
         rw [show m.kind = 1 from HKD.out] at e0
         have lm := run_loadG (o := 0) aggRM2 rfl (St.pick 3 s8).rowAll)
      | (go_at_call 119; refine rraiseO_c (x := z) (p := (kp : Int)) HZO.out.1 HZO.out.2.1 HZO.out.2.2 (St.pick 1 s8) ?_; rintro v wA hv sA
         have HV : Hid (v.o = joinedO (freshO x.o) (kp : Int)) := hid (by rw [hv, HZ.out, ← HHE.out]; rfl)
         have HVO : Hid (OOK v.o ∧ v.o.L.length ≤ 100) := hid (by rw [hv, HZ.out]; exact ⟨HHO2.out.1.raise _, by have := raiseO_len H (kp : Int); have := HHO2.out.2.1; omega⟩)
         clear hv)
      | (refine wpl_storeA (vs := v.cells) rfl (.tmp 3) (.tmp 35) (by rfl) aggRO (by rfl) (by rfl) (RO.len HVO.out.1.ro) (RO.one _) (St.pick 1 sA) (RO.len HZO.out.1.ro) ?_; rintro wB sB; have lv := roLd HVO.out.1.ro sB)
      | (go_at_call 123; refine rothers_c (q := (kp : Int)) HVO.out.1 sB ?_; rintro an nn nc wC sC; have hnn := ivs_len (OwnS.rd sC))
      | fail)
    clear e0 e1 e2 e3 e4 lz lm s7 s8 sA sB lv
    obtain ⟨OT, hOT⟩ : ∃ l, othersL v.o [(kp : Int), (kp : Int)] = l := ⟨_, rfl⟩
    have HOT : Hid (othersL v.o [(kp : Int)] = OT) := hid (by rw [← hOT, oth1])
    have hot : OT.length ≤ 11 := by rw [← hOT]; exact Nat.le_trans (List.length_filter_le _ _) (by have := HVO.out.1.v.la; have := HVO.out.1.v.am; omega)
    rw [hOT] at sC hnn
    have HNN := hid hnn
    have hn11 : nn ≤ 11 := by rw [← hnn]; exact hot
    clear hOT hot hnn
    obtain ⟨c7, e7⟩ : ∃ c, v.o.cfg.getD 7 0 = c := ⟨_, rfl⟩
    have H7 := hid e7
    clear e7
    go_loopw [9] (fun ii wr => ∃ (i : Nat) (y2 : RO), i ≤ nn ∧ ii = .int .i64 i ∧ Hid (y2.o = { v.o with L := v.o.L ++ fwdL v.o (kp : Int) (OT.take i) }) ∧ St W wr (row B 0 y2.cells :: y2.mem W :: OwnS 1 an nn nc (ivs OT) :: row E 0 zeroRO.cells :: row M 0 m.cells :: R)) (fun ii _ => nn - (intOf ii).toNat)
    case atStart => exact ⟨0, v, Nat.zero_le _, rfl, hid (by show v.o = { v.o with L := v.o.L ++ [] }; rw [List.append_nil]), sC.perm [1, 1]⟩
    case round =>
      clear sC
      obtain ⟨i, y2, hi, rfl, HY2, sr⟩ := hrel
      have HYO2 : Hid (OOK y2.o ∧ y2.o.L.length ≤ 1000) := hid (by
        rw [HY2.out]
        refine ⟨⟨HVO.out.1.v, HVO.out.1.cl, HVO.out.1.hl, HVO.out.1.r⟩, ?_⟩
        show (v.o.L ++ fwdL v.o (kp : Int) (OT.take i)).length ≤ 1000
        rw [List.length_append]
        have h1 := HVO.out.2
        have h2 : (fwdL v.o (kp : Int) (OT.take i)).length ≤ i := by unfold fwdL; rw [List.length_map]; exact List.length_take_le _ _
        omega)
      by_cases hlt : i < nn
      · have hi2 : (i : Int) < (nn : Int) := by omega
        have rd := OwnS.rd (St.pick 2 sr.drew)
        obtain ⟨g3, o3, rfl⟩ := rd.addr (by omega)
        have hiA : i < OT.length := by rw [HNN.out]; exact hlt
        have ci := rd.at (ivs_get hiA)
        have hsn := fwdL_snoc v.o (kp : Int) hiA
        obtain ⟨t, ht⟩ : ∃ t, OT[i] = t := ⟨_, rfl⟩
        rw [ht] at ci hsn
        have HSN := hid hsn
        have u := sr.drew
        have lz := roLd HYO2.out.1.ro u
        have d7 := roCfg HYO2.out.1.ro u (i := 7) (by decide)
        rw [show y2.o.cfg.getD 7 0 = c7 from by rw [HY2.out]; exact H7.out] at d7
        have HEQ : Hid ((fwdB (kp : Int) c7).cells = (fwdM v.o (kp : Int)).cells) := hid (by unfold fwdM; rw [H7.out]; rfl)
        clear ht rd hiA hsn
        go_wp2_with fail
        go_region_law (go_simp; go_at_call 118; change Calls Tryz.prog 118 #[_, _, .agg (fwdB (kp : Int) c7).cells.toArray] _ _; rw [HEQ.out]; refine rsend_c (x := y2) (p := t) (m := fwdM v.o (kp : Int)) HYO2.out.1.ro HYO2.out.2 (St.pick 1 (RdH.own (OwnS.none0 (sz := 1) (St.pick 1 u)))) ?_; rintro q w7 hq s7; have HQ := hid hq; have HQO : Hid q.ok := hid (by rw [RO.ok, hq]; exact HYO2.out.1.ro); have rS := run_storeG aggRO (b := B) (o := 0) ((St.pick 1 s7).roomG (RO.len HYO2.out.1.ro)) (RO.oneG HQO.out); have s8 := (St.pick 1 s7).setAll (vs := q.cells) (by rw [RO.len HQO.out, RO.len HYO2.out.1.ro]); clear hq)
        all_goals
          go_wp2_with fail
          go_roundw
          case rel => exact ⟨i + 1, q, by omega, by go_num, hid (by rw [HQ.out, HSN.out, ← List.append_assoc]; unfold sendO; rw [HY2.out]), s8⟩
          case measure => simp [intOf]; omega
      · have hie : nn = i := by omega
        subst hie
        rw [List.take_of_length_le (by rw [HNN.out]; exact Nat.le_refl _)] at HY2
        have lv := roLd HYO2.out.1.ro sr
        have rS := run_storeG aggRO (b := E) (o := 0) ((St.pick 3 sr).roomG zeroRO_len) (RO.oneG HYO2.out.1.ro)
        have s9 := (St.pick 3 sr).setAll (vs := y2.cells) (by rw [RO.len HYO2.out.1.ro, zeroRO_len])
        go_wp2_with fail
        have hL := run_loadA aggRO (RO.len HYO2.out.1.ro) s9.rowAll
        exact bodyPost_ret (v := .tuple #[.agg y2.cells.toArray, .int .i64 0]) (by simp [results, Tryz.results74, asAddr, hL]) rfl (HK.out y2 0 none 0 0 _ (by rw [HY2.out]; show _ = take1O (freshO x.o) (kp : Int); unfold take1O; rw [← HV.out, HOT.out]) rfl (St.drop (St.pick 1 (St.drop (St.pick 1 (s9.dropN 2))))))
  · go_enter Tryz.func74, Tryz.ntmps74
    go_wp2_with (first
      | (refine wpl_boxA (vs := x.cells) rfl (.tmp 0) rfl rfl st ?_; rintro B w1 s1)
      | (refine wpl_boxA (vs := m.cells) rfl (.tmp 2) rfl rfl s1 ?_; rintro M w2 s2)
      | (refine wpl_allocA rfl rfl zeroRO_z s2 ?_; rintro E w3 s3; have lx := roLd HH.out (St.pick 2 s3))
      | (go_at_call 116; refine rfresh_c HH.out (St.pick 3 s3) ?_; rintro y w4 hy s4
         have HY := hid hy
         have HYO := hid (HO.out.freshRO hy)
         clear hy s3 lx)
      | (refine wpl_storeA (vs := y.cells) rfl (.tmp 3) (.tmp 12) (by rfl) aggRO (by rfl) (by rfl) (RO.len HYO.out.ro) (RO.one _) (St.pick 3 s4) (RO.len HH.out) ?_; rintro w5 s5; have ly := roLd HYO.out.ro s5)
      | (go_at_call 117; refine rnodeO_c HYO.out.ro s5 ?_; rw [HY.out, show onodeB (freshO x.o) (kp : Int) = true from HB.out]; clear ly s5; rintro w5 s5; have ly := roLd HYO.out.ro s5; have lm := run_loadG (o := 0) aggRM2 rfl (St.pick 3 s5).rowAll)
      | (go_at_call 122; refine rfits_c (ks := ks) (es := es) HYO.out.ro (HPS.out.rds _) (HMA.out.rds _) (HEA.out.rds _) s5 ?_; rw [HY.out, show rfitsB (freshO x.o) m ks es = true from HF.out]; clear ly lm s5; rintro w6 s6; have lz := roLd HYO.out.ro s6)
      | (go_at_call 73; refine rhearO_yes HYO.out (by rw [HY.out]; exact HB.out) (St.pick 1 s6) ?_; rintro z w7 hz s7
         have HZ : Hid (z.o = H) := hid (by rw [hz, HY.out, fresh2]; exact HHE.out)
         have HZO : Hid (OOK z.o ∧ z.o.L.length ≤ 900 ∧ z.o.C.length ≤ 900) := hid (by rw [HZ.out]; exact ⟨HHO2.out.1, Nat.le_trans HHO2.out.2.1 (Nat.zero_le _), Nat.le_trans HHO2.out.2.2 (Nat.zero_le _)⟩)
         clear hz lz s6)
      | (refine wpl_storeA (vs := z.cells) rfl (.tmp 3) (.tmp 27) (by rfl) aggRO (by rfl) (by rfl) (RO.len HZO.out.1.ro) (RO.one _) (St.pick 1 s7) (RO.len HYO.out.ro) ?_; rintro w8 s8
         have lz := roLd HZO.out.1.ro s8
         obtain ⟨e0, e1, e2, e3, e4, _⟩ := msgC (St.pick 3 s8)
         rw [show m.kind = 2 from HKD.out] at e0
         have lm := run_loadG (o := 0) aggRM2 rfl (St.pick 3 s8).rowAll)
      | (go_at_call 124; refine rforwardO_c (x := z) HZO.out.1 HZO.out.2 HHO.out HPE.out (St.pick 1 (RdH.old HPS.out (St.pick 1 s8))) ?_; rintro v wA hv sA
         have HV := hid hv
         have HVO : Hid v.ok := hid (by rw [RO.ok, hv]; exact (forward_ok HZO.out.1 _ _ _ _).ro')
         clear hv)
      | (refine wpl_storeA (vs := v.cells) rfl (.tmp 3) (.tmp 62) (by rfl) aggRO (by rfl) (by rfl) (RO.len HVO.out) (RO.one _) (St.pick 1 sA) (RO.len HZO.out.1.ro) ?_; rintro wB sB
         have lv := roLd HVO.out sB
         have rS := run_storeG aggRO (b := E) (o := 0) ((St.pick 2 sB).roomG zeroRO_len) (RO.oneG HVO.out)
         have s9 := (St.pick 2 sB).setAll (vs := v.cells) (by rw [RO.len HVO.out, zeroRO_len]))
      | fail)
    have hL := run_loadA aggRO (RO.len HVO.out) s9.rowAll
    exact bodyPost_ret (v := .tuple #[.agg v.cells.toArray, .int .i64 0]) (by simp [results, Tryz.results74, asAddr, hL]) rfl (HK.out v 0 m.pa 0 m.pc _ (by rw [HV.out, HZ.out, ← HHE.out]; rfl) rfl (St.drop (St.pick 1 (s9.dropN 2))))
  · obtain ⟨hi, ehi⟩ : ∃ b, m.high = b := ⟨_, rfl⟩
    obtain ⟨ac, eac⟩ : ∃ b, memB H.V.a (kp : Int) = b := ⟨_, rfl⟩
    obtain ⟨fu, efu⟩ : ∃ b, decide (H.V.am ≤ (H.V.a.length : Int)) = b := ⟨_, rfl⟩
    have HHI := hid ehi; have HAC := hid eac; have HFU := hid efu
    clear ehi eac efu
    cases hi with
    | true =>
      cases ac with
      | true =>
        cases fu with
        | true =>
          go_enter Tryz.func74, Tryz.ntmps74
          go_wp2_with (first
            | (refine wpl_boxA (vs := x.cells) rfl (.tmp 0) rfl rfl st ?_; rintro B w1 s1)
            | (refine wpl_boxA (vs := m.cells) rfl (.tmp 2) rfl rfl s1 ?_; rintro M w2 s2)
            | (refine wpl_allocA rfl rfl zeroRO_z s2 ?_; rintro E w3 s3; have lx := roLd HH.out (St.pick 2 s3))
            | (go_at_call 116; refine rfresh_c HH.out (St.pick 3 s3) ?_; rintro y w4 hy s4
               have HY := hid hy
               have HYO := hid (HO.out.freshRO hy)
               clear hy s3 lx)
            | (refine wpl_storeA (vs := y.cells) rfl (.tmp 3) (.tmp 12) (by rfl) aggRO (by rfl) (by rfl) (RO.len HYO.out.ro) (RO.one _) (St.pick 3 s4) (RO.len HH.out) ?_; rintro w5 s5; have ly := roLd HYO.out.ro s5)
            | (go_at_call 117; refine rnodeO_c HYO.out.ro s5 ?_; rw [HY.out, show onodeB (freshO x.o) (kp : Int) = true from HB.out]; clear ly s5; rintro w5 s5; have ly := roLd HYO.out.ro s5; have lm := run_loadG (o := 0) aggRM2 rfl (St.pick 3 s5).rowAll)
            | (go_at_call 122; refine rfits_c (ks := ks) (es := es) HYO.out.ro (HPS.out.rds _) (HMA.out.rds _) (HEA.out.rds _) s5 ?_; rw [HY.out, show rfitsB (freshO x.o) m ks es = true from HF.out]; clear ly lm s5; rintro w6 s6; have lz := roLd HYO.out.ro s6)
            | (go_at_call 73; refine rhearO_yes HYO.out (by rw [HY.out]; exact HB.out) (St.pick 1 s6) ?_; rintro z w7 hz s7
               have HZ : Hid (z.o = H) := hid (by rw [hz, HY.out, fresh2]; exact HHE.out)
               have HZO : Hid (OOK z.o ∧ z.o.L.length ≤ 900 ∧ z.o.C.length ≤ 900) := hid (by rw [HZ.out]; exact ⟨HHO2.out.1, Nat.le_trans HHO2.out.2.1 (Nat.zero_le _), Nat.le_trans HHO2.out.2.2 (Nat.zero_le _)⟩)
               clear hz lz s6)
            | (refine wpl_storeA (vs := z.cells) rfl (.tmp 3) (.tmp 27) (by rfl) aggRO (by rfl) (by rfl) (RO.len HZO.out.1.ro) (RO.one _) (St.pick 1 s7) (RO.len HYO.out.ro) ?_; rintro w8 s8
               have lz := roLd HZO.out.1.ro s8
               obtain ⟨e0, e1, e2, e3, e4, _⟩ := msgC (St.pick 3 s8)
               rw [show m.kind = 3 from HKD.out] at e0
               have lm := run_loadG (o := 0) aggRM2 rfl (St.pick 3 s8).rowAll
               rw [show m.high = true from HHI.out] at e3
               have ba := roAct' HZO.out.1.ro s8 hkp
               rw [show memB z.o.V.a (kp : Int) = true from by rw [HZ.out]; exact HAC.out] at ba
               have lw := roLdV HZO.out.1.ro s8
               have sX := s8)
            | (go_at_call 125; refine rfull_c sX HZO.out.1.v.sa (fun q hq => (HZO.out.1.v.na q hq).1) ?_; rw [show decide (z.o.V.am ≤ (z.o.V.a.length : Int)) = true from by rw [HZ.out]; exact HFU.out]; clear lz lm e0 e1 e2 e3 e4 ba lw sX; rintro wX sX; have lz := roLd HZO.out.1.ro sX)
            | (go_at_call 119; refine rraiseO_c (x := z) (p := (kp : Int)) HZO.out.1 HZO.out.2.1 HZO.out.2.2 (St.pick 1 sX) ?_; rintro v wA hv sA
               have HV := hid hv
               have HVO : Hid (OOK v.o ∧ v.o.L.length ≤ 1000) := hid (by rw [hv]; exact ⟨HZO.out.1.raise _, by have := raiseO_len z.o (kp : Int); have := HZO.out.2.1; omega⟩)
               clear hv)
            | (go_at_call 118; refine rsend_c (x := v) (p := (kp : Int)) (m := kindM 4) HVO.out.1.ro HVO.out.2 (St.pick 1 (kindR 4 sA)) ?_; rintro u wB hu sB
               have HU := hid hu
               have HUO : Hid u.ok := hid (by rw [RO.ok, hu]; exact HVO.out.1.ro)
               clear hu)
            | (refine wpl_storeA (vs := u.cells) rfl (.tmp 3) (.tmp 85) (by rfl) aggRO (by rfl) (by rfl) (RO.len HUO.out) (RO.one _) (St.pick 1 sB) (RO.len HZO.out.1.ro) ?_; rintro wC sC
               have lv := roLd HUO.out sC
               have rS := run_storeG aggRO (b := E) (o := 0) ((St.pick 2 sC).roomG zeroRO_len) (RO.oneG HUO.out)
               have s9 := (St.pick 2 sC).setAll (vs := u.cells) (by rw [RO.len HUO.out, zeroRO_len]))
            | fail)
          have hL := run_loadA aggRO (RO.len HUO.out) s9.rowAll
          exact bodyPost_ret (v := .tuple #[.agg u.cells.toArray, .int .i64 0]) (by simp [results, Tryz.results74, asAddr, hL]) rfl (HK.out u 0 none 0 0 _ (by rw [HU.out, HV.out]; show sendO (raiseO z.o (kp : Int)) ⟨(kp : Int), kindM 4⟩ = neighborO (heardO (freshO x.o) (kp : Int)) (kp : Int) m.high; rw [HHE.out, HZ.out]; unfold neighborO fullB; rw [HHI.out, HAC.out, HFU.out]; rfl) rfl (St.drop (St.pick 1 (s9.dropN 2))))
        | false =>
          go_enter Tryz.func74, Tryz.ntmps74
          go_wp2_with (first
            | (refine wpl_boxA (vs := x.cells) rfl (.tmp 0) rfl rfl st ?_; rintro B w1 s1)
            | (refine wpl_boxA (vs := m.cells) rfl (.tmp 2) rfl rfl s1 ?_; rintro M w2 s2)
            | (refine wpl_allocA rfl rfl zeroRO_z s2 ?_; rintro E w3 s3; have lx := roLd HH.out (St.pick 2 s3))
            | (go_at_call 116; refine rfresh_c HH.out (St.pick 3 s3) ?_; rintro y w4 hy s4
               have HY := hid hy
               have HYO := hid (HO.out.freshRO hy)
               clear hy s3 lx)
            | (refine wpl_storeA (vs := y.cells) rfl (.tmp 3) (.tmp 12) (by rfl) aggRO (by rfl) (by rfl) (RO.len HYO.out.ro) (RO.one _) (St.pick 3 s4) (RO.len HH.out) ?_; rintro w5 s5; have ly := roLd HYO.out.ro s5)
            | (go_at_call 117; refine rnodeO_c HYO.out.ro s5 ?_; rw [HY.out, show onodeB (freshO x.o) (kp : Int) = true from HB.out]; clear ly s5; rintro w5 s5; have ly := roLd HYO.out.ro s5; have lm := run_loadG (o := 0) aggRM2 rfl (St.pick 3 s5).rowAll)
            | (go_at_call 122; refine rfits_c (ks := ks) (es := es) HYO.out.ro (HPS.out.rds _) (HMA.out.rds _) (HEA.out.rds _) s5 ?_; rw [HY.out, show rfitsB (freshO x.o) m ks es = true from HF.out]; clear ly lm s5; rintro w6 s6; have lz := roLd HYO.out.ro s6)
            | (go_at_call 73; refine rhearO_yes HYO.out (by rw [HY.out]; exact HB.out) (St.pick 1 s6) ?_; rintro z w7 hz s7
               have HZ : Hid (z.o = H) := hid (by rw [hz, HY.out, fresh2]; exact HHE.out)
               have HZO : Hid (OOK z.o ∧ z.o.L.length ≤ 900 ∧ z.o.C.length ≤ 900) := hid (by rw [HZ.out]; exact ⟨HHO2.out.1, Nat.le_trans HHO2.out.2.1 (Nat.zero_le _), Nat.le_trans HHO2.out.2.2 (Nat.zero_le _)⟩)
               clear hz lz s6)
            | (refine wpl_storeA (vs := z.cells) rfl (.tmp 3) (.tmp 27) (by rfl) aggRO (by rfl) (by rfl) (RO.len HZO.out.1.ro) (RO.one _) (St.pick 1 s7) (RO.len HYO.out.ro) ?_; rintro w8 s8
               have lz := roLd HZO.out.1.ro s8
               obtain ⟨e0, e1, e2, e3, e4, _⟩ := msgC (St.pick 3 s8)
               rw [show m.kind = 3 from HKD.out] at e0
               have lm := run_loadG (o := 0) aggRM2 rfl (St.pick 3 s8).rowAll
               rw [show m.high = true from HHI.out] at e3
               have ba := roAct' HZO.out.1.ro s8 hkp
               rw [show memB z.o.V.a (kp : Int) = true from by rw [HZ.out]; exact HAC.out] at ba
               have lw := roLdV HZO.out.1.ro s8
               have sX := s8)
            | (go_at_call 125; refine rfull_c sX HZO.out.1.v.sa (fun q hq => (HZO.out.1.v.na q hq).1) ?_; rw [show decide (z.o.V.am ≤ (z.o.V.a.length : Int)) = false from by rw [HZ.out]; exact HFU.out]; clear lz lm e0 e1 e2 e3 e4 ba lw sX; rintro wX sX; have lz := roLd HZO.out.1.ro sX)
            | (go_at_call 119; refine rraiseO_c (x := z) (p := (kp : Int)) HZO.out.1 HZO.out.2.1 HZO.out.2.2 (St.pick 1 sX) ?_; rintro v wA hv sA
               have HV := hid hv
               have HVO : Hid (OOK v.o ∧ v.o.L.length ≤ 1000) := hid (by rw [hv]; exact ⟨HZO.out.1.raise _, by have := raiseO_len z.o (kp : Int); have := HZO.out.2.1; omega⟩)
               clear hv)
            | (go_at_call 118; refine rsend_c (x := v) (p := (kp : Int)) (m := kindM 4) HVO.out.1.ro HVO.out.2 (St.pick 1 (kindR 4 sA)) ?_; rintro u wB hu sB
               have HU := hid hu
               have HUO : Hid u.ok := hid (by rw [RO.ok, hu]; exact HVO.out.1.ro)
               clear hu)
            | (refine wpl_storeA (vs := u.cells) rfl (.tmp 3) (.tmp 85) (by rfl) aggRO (by rfl) (by rfl) (RO.len HUO.out) (RO.one _) (St.pick 1 sB) (RO.len HZO.out.1.ro) ?_; rintro wC sC
               have lv := roLd HUO.out sC
               have rS := run_storeG aggRO (b := E) (o := 0) ((St.pick 2 sC).roomG zeroRO_len) (RO.oneG HUO.out)
               have s9 := (St.pick 2 sC).setAll (vs := u.cells) (by rw [RO.len HUO.out, zeroRO_len]))
            | fail)
          have hL := run_loadA aggRO (RO.len HUO.out) s9.rowAll
          exact bodyPost_ret (v := .tuple #[.agg u.cells.toArray, .int .i64 0]) (by simp [results, Tryz.results74, asAddr, hL]) rfl (HK.out u 0 none 0 0 _ (by rw [HU.out, HV.out]; show sendO (raiseO z.o (kp : Int)) ⟨(kp : Int), kindM 4⟩ = neighborO (heardO (freshO x.o) (kp : Int)) (kp : Int) m.high; rw [HHE.out, HZ.out]; unfold neighborO fullB; rw [HHI.out, HAC.out, HFU.out]; rfl) rfl (St.drop (St.pick 1 (s9.dropN 2))))
      | false =>
        cases fu with
        | true =>
          go_enter Tryz.func74, Tryz.ntmps74
          go_wp2_with (first
            | (refine wpl_boxA (vs := x.cells) rfl (.tmp 0) rfl rfl st ?_; rintro B w1 s1)
            | (refine wpl_boxA (vs := m.cells) rfl (.tmp 2) rfl rfl s1 ?_; rintro M w2 s2)
            | (refine wpl_allocA rfl rfl zeroRO_z s2 ?_; rintro E w3 s3; have lx := roLd HH.out (St.pick 2 s3))
            | (go_at_call 116; refine rfresh_c HH.out (St.pick 3 s3) ?_; rintro y w4 hy s4
               have HY := hid hy
               have HYO := hid (HO.out.freshRO hy)
               clear hy s3 lx)
            | (refine wpl_storeA (vs := y.cells) rfl (.tmp 3) (.tmp 12) (by rfl) aggRO (by rfl) (by rfl) (RO.len HYO.out.ro) (RO.one _) (St.pick 3 s4) (RO.len HH.out) ?_; rintro w5 s5; have ly := roLd HYO.out.ro s5)
            | (go_at_call 117; refine rnodeO_c HYO.out.ro s5 ?_; rw [HY.out, show onodeB (freshO x.o) (kp : Int) = true from HB.out]; clear ly s5; rintro w5 s5; have ly := roLd HYO.out.ro s5; have lm := run_loadG (o := 0) aggRM2 rfl (St.pick 3 s5).rowAll)
            | (go_at_call 122; refine rfits_c (ks := ks) (es := es) HYO.out.ro (HPS.out.rds _) (HMA.out.rds _) (HEA.out.rds _) s5 ?_; rw [HY.out, show rfitsB (freshO x.o) m ks es = true from HF.out]; clear ly lm s5; rintro w6 s6; have lz := roLd HYO.out.ro s6)
            | (go_at_call 73; refine rhearO_yes HYO.out (by rw [HY.out]; exact HB.out) (St.pick 1 s6) ?_; rintro z w7 hz s7
               have HZ : Hid (z.o = H) := hid (by rw [hz, HY.out, fresh2]; exact HHE.out)
               have HZO : Hid (OOK z.o ∧ z.o.L.length ≤ 900 ∧ z.o.C.length ≤ 900) := hid (by rw [HZ.out]; exact ⟨HHO2.out.1, Nat.le_trans HHO2.out.2.1 (Nat.zero_le _), Nat.le_trans HHO2.out.2.2 (Nat.zero_le _)⟩)
               clear hz lz s6)
            | (refine wpl_storeA (vs := z.cells) rfl (.tmp 3) (.tmp 27) (by rfl) aggRO (by rfl) (by rfl) (RO.len HZO.out.1.ro) (RO.one _) (St.pick 1 s7) (RO.len HYO.out.ro) ?_; rintro w8 s8
               have lz := roLd HZO.out.1.ro s8
               obtain ⟨e0, e1, e2, e3, e4, _⟩ := msgC (St.pick 3 s8)
               rw [show m.kind = 3 from HKD.out] at e0
               have lm := run_loadG (o := 0) aggRM2 rfl (St.pick 3 s8).rowAll
               rw [show m.high = true from HHI.out] at e3
               have ba := roAct' HZO.out.1.ro s8 hkp
               rw [show memB z.o.V.a (kp : Int) = false from by rw [HZ.out]; exact HAC.out] at ba
               have lw := roLdV HZO.out.1.ro s8
               have sX := s8)
            | (go_at_call 125; refine rfull_c sX HZO.out.1.v.sa (fun q hq => (HZO.out.1.v.na q hq).1) ?_; rw [show decide (z.o.V.am ≤ (z.o.V.a.length : Int)) = true from by rw [HZ.out]; exact HFU.out]; clear lz lm e0 e1 e2 e3 e4 ba lw sX; rintro wX sX; have lz := roLd HZO.out.1.ro sX)
            | (go_at_call 119; refine rraiseO_c (x := z) (p := (kp : Int)) HZO.out.1 HZO.out.2.1 HZO.out.2.2 (St.pick 1 sX) ?_; rintro v wA hv sA
               have HV := hid hv
               have HVO : Hid (OOK v.o ∧ v.o.L.length ≤ 1000) := hid (by rw [hv]; exact ⟨HZO.out.1.raise _, by have := raiseO_len z.o (kp : Int); have := HZO.out.2.1; omega⟩)
               clear hv)
            | (go_at_call 118; refine rsend_c (x := v) (p := (kp : Int)) (m := kindM 4) HVO.out.1.ro HVO.out.2 (St.pick 1 (kindR 4 sA)) ?_; rintro u wB hu sB
               have HU := hid hu
               have HUO : Hid u.ok := hid (by rw [RO.ok, hu]; exact HVO.out.1.ro)
               clear hu)
            | (refine wpl_storeA (vs := u.cells) rfl (.tmp 3) (.tmp 85) (by rfl) aggRO (by rfl) (by rfl) (RO.len HUO.out) (RO.one _) (St.pick 1 sB) (RO.len HZO.out.1.ro) ?_; rintro wC sC
               have lv := roLd HUO.out sC
               have rS := run_storeG aggRO (b := E) (o := 0) ((St.pick 2 sC).roomG zeroRO_len) (RO.oneG HUO.out)
               have s9 := (St.pick 2 sC).setAll (vs := u.cells) (by rw [RO.len HUO.out, zeroRO_len]))
            | fail)
          have hL := run_loadA aggRO (RO.len HUO.out) s9.rowAll
          exact bodyPost_ret (v := .tuple #[.agg u.cells.toArray, .int .i64 0]) (by simp [results, Tryz.results74, asAddr, hL]) rfl (HK.out u 0 none 0 0 _ (by rw [HU.out, HV.out]; show sendO (raiseO z.o (kp : Int)) ⟨(kp : Int), kindM 4⟩ = neighborO (heardO (freshO x.o) (kp : Int)) (kp : Int) m.high; rw [HHE.out, HZ.out]; unfold neighborO fullB; rw [HHI.out, HAC.out, HFU.out]; rfl) rfl (St.drop (St.pick 1 (s9.dropN 2))))
        | false =>
          go_enter Tryz.func74, Tryz.ntmps74
          go_wp2_with (first
            | (refine wpl_boxA (vs := x.cells) rfl (.tmp 0) rfl rfl st ?_; rintro B w1 s1)
            | (refine wpl_boxA (vs := m.cells) rfl (.tmp 2) rfl rfl s1 ?_; rintro M w2 s2)
            | (refine wpl_allocA rfl rfl zeroRO_z s2 ?_; rintro E w3 s3; have lx := roLd HH.out (St.pick 2 s3))
            | (go_at_call 116; refine rfresh_c HH.out (St.pick 3 s3) ?_; rintro y w4 hy s4
               have HY := hid hy
               have HYO := hid (HO.out.freshRO hy)
               clear hy s3 lx)
            | (refine wpl_storeA (vs := y.cells) rfl (.tmp 3) (.tmp 12) (by rfl) aggRO (by rfl) (by rfl) (RO.len HYO.out.ro) (RO.one _) (St.pick 3 s4) (RO.len HH.out) ?_; rintro w5 s5; have ly := roLd HYO.out.ro s5)
            | (go_at_call 117; refine rnodeO_c HYO.out.ro s5 ?_; rw [HY.out, show onodeB (freshO x.o) (kp : Int) = true from HB.out]; clear ly s5; rintro w5 s5; have ly := roLd HYO.out.ro s5; have lm := run_loadG (o := 0) aggRM2 rfl (St.pick 3 s5).rowAll)
            | (go_at_call 122; refine rfits_c (ks := ks) (es := es) HYO.out.ro (HPS.out.rds _) (HMA.out.rds _) (HEA.out.rds _) s5 ?_; rw [HY.out, show rfitsB (freshO x.o) m ks es = true from HF.out]; clear ly lm s5; rintro w6 s6; have lz := roLd HYO.out.ro s6)
            | (go_at_call 73; refine rhearO_yes HYO.out (by rw [HY.out]; exact HB.out) (St.pick 1 s6) ?_; rintro z w7 hz s7
               have HZ : Hid (z.o = H) := hid (by rw [hz, HY.out, fresh2]; exact HHE.out)
               have HZO : Hid (OOK z.o ∧ z.o.L.length ≤ 900 ∧ z.o.C.length ≤ 900) := hid (by rw [HZ.out]; exact ⟨HHO2.out.1, Nat.le_trans HHO2.out.2.1 (Nat.zero_le _), Nat.le_trans HHO2.out.2.2 (Nat.zero_le _)⟩)
               clear hz lz s6)
            | (refine wpl_storeA (vs := z.cells) rfl (.tmp 3) (.tmp 27) (by rfl) aggRO (by rfl) (by rfl) (RO.len HZO.out.1.ro) (RO.one _) (St.pick 1 s7) (RO.len HYO.out.ro) ?_; rintro w8 s8
               have lz := roLd HZO.out.1.ro s8
               obtain ⟨e0, e1, e2, e3, e4, _⟩ := msgC (St.pick 3 s8)
               rw [show m.kind = 3 from HKD.out] at e0
               have lm := run_loadG (o := 0) aggRM2 rfl (St.pick 3 s8).rowAll
               rw [show m.high = true from HHI.out] at e3
               have ba := roAct' HZO.out.1.ro s8 hkp
               rw [show memB z.o.V.a (kp : Int) = false from by rw [HZ.out]; exact HAC.out] at ba
               have lw := roLdV HZO.out.1.ro s8
               have sX := s8)
            | (go_at_call 125; refine rfull_c sX HZO.out.1.v.sa (fun q hq => (HZO.out.1.v.na q hq).1) ?_; rw [show decide (z.o.V.am ≤ (z.o.V.a.length : Int)) = false from by rw [HZ.out]; exact HFU.out]; clear lz lm e0 e1 e2 e3 e4 ba lw sX; rintro wX sX; have lz := roLd HZO.out.1.ro sX)
            | (go_at_call 119; refine rraiseO_c (x := z) (p := (kp : Int)) HZO.out.1 HZO.out.2.1 HZO.out.2.2 (St.pick 1 sX) ?_; rintro v wA hv sA
               have HV := hid hv
               have HVO : Hid (OOK v.o ∧ v.o.L.length ≤ 1000) := hid (by rw [hv]; exact ⟨HZO.out.1.raise _, by have := raiseO_len z.o (kp : Int); have := HZO.out.2.1; omega⟩)
               clear hv)
            | (go_at_call 118; refine rsend_c (x := v) (p := (kp : Int)) (m := kindM 4) HVO.out.1.ro HVO.out.2 (St.pick 1 (kindR 4 sA)) ?_; rintro u wB hu sB
               have HU := hid hu
               have HUO : Hid u.ok := hid (by rw [RO.ok, hu]; exact HVO.out.1.ro)
               clear hu)
            | (refine wpl_storeA (vs := u.cells) rfl (.tmp 3) (.tmp 85) (by rfl) aggRO (by rfl) (by rfl) (RO.len HUO.out) (RO.one _) (St.pick 1 sB) (RO.len HZO.out.1.ro) ?_; rintro wC sC
               have lv := roLd HUO.out sC
               have rS := run_storeG aggRO (b := E) (o := 0) ((St.pick 2 sC).roomG zeroRO_len) (RO.oneG HUO.out)
               have s9 := (St.pick 2 sC).setAll (vs := u.cells) (by rw [RO.len HUO.out, zeroRO_len]))
            | fail)
          have hL := run_loadA aggRO (RO.len HUO.out) s9.rowAll
          exact bodyPost_ret (v := .tuple #[.agg u.cells.toArray, .int .i64 0]) (by simp [results, Tryz.results74, asAddr, hL]) rfl (HK.out u 0 none 0 0 _ (by rw [HU.out, HV.out]; show sendO (raiseO z.o (kp : Int)) ⟨(kp : Int), kindM 4⟩ = neighborO (heardO (freshO x.o) (kp : Int)) (kp : Int) m.high; rw [HHE.out, HZ.out]; unfold neighborO fullB; rw [HHI.out, HAC.out, HFU.out]; rfl) rfl (St.drop (St.pick 1 (s9.dropN 2))))
    | false =>
      cases ac with
      | true =>
        cases fu with
        | true =>
          go_enter Tryz.func74, Tryz.ntmps74
          go_wp2_with (first
            | (refine wpl_boxA (vs := x.cells) rfl (.tmp 0) rfl rfl st ?_; rintro B w1 s1)
            | (refine wpl_boxA (vs := m.cells) rfl (.tmp 2) rfl rfl s1 ?_; rintro M w2 s2)
            | (refine wpl_allocA rfl rfl zeroRO_z s2 ?_; rintro E w3 s3; have lx := roLd HH.out (St.pick 2 s3))
            | (go_at_call 116; refine rfresh_c HH.out (St.pick 3 s3) ?_; rintro y w4 hy s4
               have HY := hid hy
               have HYO := hid (HO.out.freshRO hy)
               clear hy s3 lx)
            | (refine wpl_storeA (vs := y.cells) rfl (.tmp 3) (.tmp 12) (by rfl) aggRO (by rfl) (by rfl) (RO.len HYO.out.ro) (RO.one _) (St.pick 3 s4) (RO.len HH.out) ?_; rintro w5 s5; have ly := roLd HYO.out.ro s5)
            | (go_at_call 117; refine rnodeO_c HYO.out.ro s5 ?_; rw [HY.out, show onodeB (freshO x.o) (kp : Int) = true from HB.out]; clear ly s5; rintro w5 s5; have ly := roLd HYO.out.ro s5; have lm := run_loadG (o := 0) aggRM2 rfl (St.pick 3 s5).rowAll)
            | (go_at_call 122; refine rfits_c (ks := ks) (es := es) HYO.out.ro (HPS.out.rds _) (HMA.out.rds _) (HEA.out.rds _) s5 ?_; rw [HY.out, show rfitsB (freshO x.o) m ks es = true from HF.out]; clear ly lm s5; rintro w6 s6; have lz := roLd HYO.out.ro s6)
            | (go_at_call 73; refine rhearO_yes HYO.out (by rw [HY.out]; exact HB.out) (St.pick 1 s6) ?_; rintro z w7 hz s7
               have HZ : Hid (z.o = H) := hid (by rw [hz, HY.out, fresh2]; exact HHE.out)
               have HZO : Hid (OOK z.o ∧ z.o.L.length ≤ 900 ∧ z.o.C.length ≤ 900) := hid (by rw [HZ.out]; exact ⟨HHO2.out.1, Nat.le_trans HHO2.out.2.1 (Nat.zero_le _), Nat.le_trans HHO2.out.2.2 (Nat.zero_le _)⟩)
               clear hz lz s6)
            | (refine wpl_storeA (vs := z.cells) rfl (.tmp 3) (.tmp 27) (by rfl) aggRO (by rfl) (by rfl) (RO.len HZO.out.1.ro) (RO.one _) (St.pick 1 s7) (RO.len HYO.out.ro) ?_; rintro w8 s8
               have lz := roLd HZO.out.1.ro s8
               obtain ⟨e0, e1, e2, e3, e4, _⟩ := msgC (St.pick 3 s8)
               rw [show m.kind = 3 from HKD.out] at e0
               have lm := run_loadG (o := 0) aggRM2 rfl (St.pick 3 s8).rowAll
               rw [show m.high = false from HHI.out] at e3
               have ba := roAct' HZO.out.1.ro s8 hkp
               rw [show memB z.o.V.a (kp : Int) = true from by rw [HZ.out]; exact HAC.out] at ba
               have lw := roLdV HZO.out.1.ro s8
               have sX := s8)
            | (go_at_call 125; refine rfull_c sX HZO.out.1.v.sa (fun q hq => (HZO.out.1.v.na q hq).1) ?_; rw [show decide (z.o.V.am ≤ (z.o.V.a.length : Int)) = true from by rw [HZ.out]; exact HFU.out]; clear lz lm e0 e1 e2 e3 e4 ba lw sX; rintro wX sX; have lz := roLd HZO.out.1.ro sX)
            | (go_at_call 119; refine rraiseO_c (x := z) (p := (kp : Int)) HZO.out.1 HZO.out.2.1 HZO.out.2.2 (St.pick 1 sX) ?_; rintro v wA hv sA
               have HV := hid hv
               have HVO : Hid (OOK v.o ∧ v.o.L.length ≤ 1000) := hid (by rw [hv]; exact ⟨HZO.out.1.raise _, by have := raiseO_len z.o (kp : Int); have := HZO.out.2.1; omega⟩)
               clear hv)
            | (go_at_call 118; refine rsend_c (x := v) (p := (kp : Int)) (m := kindM 4) HVO.out.1.ro HVO.out.2 (St.pick 1 (kindR 4 sA)) ?_; rintro u wB hu sB
               have HU := hid hu
               have HUO : Hid u.ok := hid (by rw [RO.ok, hu]; exact HVO.out.1.ro)
               clear hu)
            | (refine wpl_storeA (vs := u.cells) rfl (.tmp 3) (.tmp 85) (by rfl) aggRO (by rfl) (by rfl) (RO.len HUO.out) (RO.one _) (St.pick 1 sB) (RO.len HZO.out.1.ro) ?_; rintro wC sC
               have lv := roLd HUO.out sC
               have rS := run_storeG aggRO (b := E) (o := 0) ((St.pick 2 sC).roomG zeroRO_len) (RO.oneG HUO.out)
               have s9 := (St.pick 2 sC).setAll (vs := u.cells) (by rw [RO.len HUO.out, zeroRO_len]))
            | fail)
          have hL := run_loadA aggRO (RO.len HUO.out) s9.rowAll
          exact bodyPost_ret (v := .tuple #[.agg u.cells.toArray, .int .i64 0]) (by simp [results, Tryz.results74, asAddr, hL]) rfl (HK.out u 0 none 0 0 _ (by rw [HU.out, HV.out]; show sendO (raiseO z.o (kp : Int)) ⟨(kp : Int), kindM 4⟩ = neighborO (heardO (freshO x.o) (kp : Int)) (kp : Int) m.high; rw [HHE.out, HZ.out]; unfold neighborO fullB; rw [HHI.out, HAC.out, HFU.out]; rfl) rfl (St.drop (St.pick 1 (s9.dropN 2))))
        | false =>
          go_enter Tryz.func74, Tryz.ntmps74
          go_wp2_with (first
            | (refine wpl_boxA (vs := x.cells) rfl (.tmp 0) rfl rfl st ?_; rintro B w1 s1)
            | (refine wpl_boxA (vs := m.cells) rfl (.tmp 2) rfl rfl s1 ?_; rintro M w2 s2)
            | (refine wpl_allocA rfl rfl zeroRO_z s2 ?_; rintro E w3 s3; have lx := roLd HH.out (St.pick 2 s3))
            | (go_at_call 116; refine rfresh_c HH.out (St.pick 3 s3) ?_; rintro y w4 hy s4
               have HY := hid hy
               have HYO := hid (HO.out.freshRO hy)
               clear hy s3 lx)
            | (refine wpl_storeA (vs := y.cells) rfl (.tmp 3) (.tmp 12) (by rfl) aggRO (by rfl) (by rfl) (RO.len HYO.out.ro) (RO.one _) (St.pick 3 s4) (RO.len HH.out) ?_; rintro w5 s5; have ly := roLd HYO.out.ro s5)
            | (go_at_call 117; refine rnodeO_c HYO.out.ro s5 ?_; rw [HY.out, show onodeB (freshO x.o) (kp : Int) = true from HB.out]; clear ly s5; rintro w5 s5; have ly := roLd HYO.out.ro s5; have lm := run_loadG (o := 0) aggRM2 rfl (St.pick 3 s5).rowAll)
            | (go_at_call 122; refine rfits_c (ks := ks) (es := es) HYO.out.ro (HPS.out.rds _) (HMA.out.rds _) (HEA.out.rds _) s5 ?_; rw [HY.out, show rfitsB (freshO x.o) m ks es = true from HF.out]; clear ly lm s5; rintro w6 s6; have lz := roLd HYO.out.ro s6)
            | (go_at_call 73; refine rhearO_yes HYO.out (by rw [HY.out]; exact HB.out) (St.pick 1 s6) ?_; rintro z w7 hz s7
               have HZ : Hid (z.o = H) := hid (by rw [hz, HY.out, fresh2]; exact HHE.out)
               have HZO : Hid (OOK z.o ∧ z.o.L.length ≤ 900 ∧ z.o.C.length ≤ 900) := hid (by rw [HZ.out]; exact ⟨HHO2.out.1, Nat.le_trans HHO2.out.2.1 (Nat.zero_le _), Nat.le_trans HHO2.out.2.2 (Nat.zero_le _)⟩)
               clear hz lz s6)
            | (refine wpl_storeA (vs := z.cells) rfl (.tmp 3) (.tmp 27) (by rfl) aggRO (by rfl) (by rfl) (RO.len HZO.out.1.ro) (RO.one _) (St.pick 1 s7) (RO.len HYO.out.ro) ?_; rintro w8 s8
               have lz := roLd HZO.out.1.ro s8
               obtain ⟨e0, e1, e2, e3, e4, _⟩ := msgC (St.pick 3 s8)
               rw [show m.kind = 3 from HKD.out] at e0
               have lm := run_loadG (o := 0) aggRM2 rfl (St.pick 3 s8).rowAll
               rw [show m.high = false from HHI.out] at e3
               have ba := roAct' HZO.out.1.ro s8 hkp
               rw [show memB z.o.V.a (kp : Int) = true from by rw [HZ.out]; exact HAC.out] at ba
               have lw := roLdV HZO.out.1.ro s8
               have sX := s8)
            | (go_at_call 125; refine rfull_c sX HZO.out.1.v.sa (fun q hq => (HZO.out.1.v.na q hq).1) ?_; rw [show decide (z.o.V.am ≤ (z.o.V.a.length : Int)) = false from by rw [HZ.out]; exact HFU.out]; clear lz lm e0 e1 e2 e3 e4 ba lw sX; rintro wX sX; have lz := roLd HZO.out.1.ro sX)
            | (go_at_call 119; refine rraiseO_c (x := z) (p := (kp : Int)) HZO.out.1 HZO.out.2.1 HZO.out.2.2 (St.pick 1 sX) ?_; rintro v wA hv sA
               have HV := hid hv
               have HVO : Hid (OOK v.o ∧ v.o.L.length ≤ 1000) := hid (by rw [hv]; exact ⟨HZO.out.1.raise _, by have := raiseO_len z.o (kp : Int); have := HZO.out.2.1; omega⟩)
               clear hv)
            | (go_at_call 118; refine rsend_c (x := v) (p := (kp : Int)) (m := kindM 4) HVO.out.1.ro HVO.out.2 (St.pick 1 (kindR 4 sA)) ?_; rintro u wB hu sB
               have HU := hid hu
               have HUO : Hid u.ok := hid (by rw [RO.ok, hu]; exact HVO.out.1.ro)
               clear hu)
            | (refine wpl_storeA (vs := u.cells) rfl (.tmp 3) (.tmp 85) (by rfl) aggRO (by rfl) (by rfl) (RO.len HUO.out) (RO.one _) (St.pick 1 sB) (RO.len HZO.out.1.ro) ?_; rintro wC sC
               have lv := roLd HUO.out sC
               have rS := run_storeG aggRO (b := E) (o := 0) ((St.pick 2 sC).roomG zeroRO_len) (RO.oneG HUO.out)
               have s9 := (St.pick 2 sC).setAll (vs := u.cells) (by rw [RO.len HUO.out, zeroRO_len]))
            | fail)
          have hL := run_loadA aggRO (RO.len HUO.out) s9.rowAll
          exact bodyPost_ret (v := .tuple #[.agg u.cells.toArray, .int .i64 0]) (by simp [results, Tryz.results74, asAddr, hL]) rfl (HK.out u 0 none 0 0 _ (by rw [HU.out, HV.out]; show sendO (raiseO z.o (kp : Int)) ⟨(kp : Int), kindM 4⟩ = neighborO (heardO (freshO x.o) (kp : Int)) (kp : Int) m.high; rw [HHE.out, HZ.out]; unfold neighborO fullB; rw [HHI.out, HAC.out, HFU.out]; rfl) rfl (St.drop (St.pick 1 (s9.dropN 2))))
      | false =>
        cases fu with
        | true =>
          go_enter Tryz.func74, Tryz.ntmps74
          go_wp2_with (first
            | (refine wpl_boxA (vs := x.cells) rfl (.tmp 0) rfl rfl st ?_; rintro B w1 s1)
            | (refine wpl_boxA (vs := m.cells) rfl (.tmp 2) rfl rfl s1 ?_; rintro M w2 s2)
            | (refine wpl_allocA rfl rfl zeroRO_z s2 ?_; rintro E w3 s3; have lx := roLd HH.out (St.pick 2 s3))
            | (go_at_call 116; refine rfresh_c HH.out (St.pick 3 s3) ?_; rintro y w4 hy s4
               have HY := hid hy
               have HYO := hid (HO.out.freshRO hy)
               clear hy s3 lx)
            | (refine wpl_storeA (vs := y.cells) rfl (.tmp 3) (.tmp 12) (by rfl) aggRO (by rfl) (by rfl) (RO.len HYO.out.ro) (RO.one _) (St.pick 3 s4) (RO.len HH.out) ?_; rintro w5 s5; have ly := roLd HYO.out.ro s5)
            | (go_at_call 117; refine rnodeO_c HYO.out.ro s5 ?_; rw [HY.out, show onodeB (freshO x.o) (kp : Int) = true from HB.out]; clear ly s5; rintro w5 s5; have ly := roLd HYO.out.ro s5; have lm := run_loadG (o := 0) aggRM2 rfl (St.pick 3 s5).rowAll)
            | (go_at_call 122; refine rfits_c (ks := ks) (es := es) HYO.out.ro (HPS.out.rds _) (HMA.out.rds _) (HEA.out.rds _) s5 ?_; rw [HY.out, show rfitsB (freshO x.o) m ks es = true from HF.out]; clear ly lm s5; rintro w6 s6; have lz := roLd HYO.out.ro s6)
            | (go_at_call 73; refine rhearO_yes HYO.out (by rw [HY.out]; exact HB.out) (St.pick 1 s6) ?_; rintro z w7 hz s7
               have HZ : Hid (z.o = H) := hid (by rw [hz, HY.out, fresh2]; exact HHE.out)
               have HZO : Hid (OOK z.o ∧ z.o.L.length ≤ 900 ∧ z.o.C.length ≤ 900) := hid (by rw [HZ.out]; exact ⟨HHO2.out.1, Nat.le_trans HHO2.out.2.1 (Nat.zero_le _), Nat.le_trans HHO2.out.2.2 (Nat.zero_le _)⟩)
               clear hz lz s6)
            | (refine wpl_storeA (vs := z.cells) rfl (.tmp 3) (.tmp 27) (by rfl) aggRO (by rfl) (by rfl) (RO.len HZO.out.1.ro) (RO.one _) (St.pick 1 s7) (RO.len HYO.out.ro) ?_; rintro w8 s8
               have lz := roLd HZO.out.1.ro s8
               obtain ⟨e0, e1, e2, e3, e4, _⟩ := msgC (St.pick 3 s8)
               rw [show m.kind = 3 from HKD.out] at e0
               have lm := run_loadG (o := 0) aggRM2 rfl (St.pick 3 s8).rowAll
               rw [show m.high = false from HHI.out] at e3
               have ba := roAct' HZO.out.1.ro s8 hkp
               rw [show memB z.o.V.a (kp : Int) = false from by rw [HZ.out]; exact HAC.out] at ba
               have lw := roLdV HZO.out.1.ro s8
               have sX := s8)
            | (go_at_call 125; refine rfull_c sX HZO.out.1.v.sa (fun q hq => (HZO.out.1.v.na q hq).1) ?_; rw [show decide (z.o.V.am ≤ (z.o.V.a.length : Int)) = true from by rw [HZ.out]; exact HFU.out]; clear lz lm e0 e1 e2 e3 e4 ba lw sX; rintro wX sX; have lz := roLd HZO.out.1.ro sX)
            | (go_at_call 118; refine rsend_c (x := z) (p := (kp : Int)) (m := kindM 5) HZO.out.1.ro (Nat.le_trans HZO.out.2.1 (by decide)) (St.pick 1 (kindR 5 (St.pick 1 sX))) ?_; rintro u wB hu sB
               have HU := hid hu
               have HUO : Hid u.ok := hid (by rw [RO.ok, hu]; exact HZO.out.1.ro)
               clear hu)
            | (refine wpl_storeA (vs := u.cells) rfl (.tmp 3) (.tmp 89) (by rfl) aggRO (by rfl) (by rfl) (RO.len HUO.out) (RO.one _) (St.pick 1 sB) (RO.len HZO.out.1.ro) ?_; rintro wC sC
               have lv := roLd HUO.out sC
               have rS := run_storeG aggRO (b := E) (o := 0) ((St.pick 2 sC).roomG zeroRO_len) (RO.oneG HUO.out)
               have s9 := (St.pick 2 sC).setAll (vs := u.cells) (by rw [RO.len HUO.out, zeroRO_len]))
            | fail)
          have hL := run_loadA aggRO (RO.len HUO.out) s9.rowAll
          exact bodyPost_ret (v := .tuple #[.agg u.cells.toArray, .int .i64 0]) (by simp [results, Tryz.results74, asAddr, hL]) rfl (HK.out u 0 none 0 0 _ (by rw [HU.out]; show sendO z.o ⟨(kp : Int), kindM 5⟩ = neighborO (heardO (freshO x.o) (kp : Int)) (kp : Int) m.high; rw [HHE.out, HZ.out]; unfold neighborO fullB; rw [HHI.out, HAC.out, HFU.out]; rfl) rfl (St.drop (St.pick 1 (s9.dropN 2))))
        | false =>
          go_enter Tryz.func74, Tryz.ntmps74
          go_wp2_with (first
            | (refine wpl_boxA (vs := x.cells) rfl (.tmp 0) rfl rfl st ?_; rintro B w1 s1)
            | (refine wpl_boxA (vs := m.cells) rfl (.tmp 2) rfl rfl s1 ?_; rintro M w2 s2)
            | (refine wpl_allocA rfl rfl zeroRO_z s2 ?_; rintro E w3 s3; have lx := roLd HH.out (St.pick 2 s3))
            | (go_at_call 116; refine rfresh_c HH.out (St.pick 3 s3) ?_; rintro y w4 hy s4
               have HY := hid hy
               have HYO := hid (HO.out.freshRO hy)
               clear hy s3 lx)
            | (refine wpl_storeA (vs := y.cells) rfl (.tmp 3) (.tmp 12) (by rfl) aggRO (by rfl) (by rfl) (RO.len HYO.out.ro) (RO.one _) (St.pick 3 s4) (RO.len HH.out) ?_; rintro w5 s5; have ly := roLd HYO.out.ro s5)
            | (go_at_call 117; refine rnodeO_c HYO.out.ro s5 ?_; rw [HY.out, show onodeB (freshO x.o) (kp : Int) = true from HB.out]; clear ly s5; rintro w5 s5; have ly := roLd HYO.out.ro s5; have lm := run_loadG (o := 0) aggRM2 rfl (St.pick 3 s5).rowAll)
            | (go_at_call 122; refine rfits_c (ks := ks) (es := es) HYO.out.ro (HPS.out.rds _) (HMA.out.rds _) (HEA.out.rds _) s5 ?_; rw [HY.out, show rfitsB (freshO x.o) m ks es = true from HF.out]; clear ly lm s5; rintro w6 s6; have lz := roLd HYO.out.ro s6)
            | (go_at_call 73; refine rhearO_yes HYO.out (by rw [HY.out]; exact HB.out) (St.pick 1 s6) ?_; rintro z w7 hz s7
               have HZ : Hid (z.o = H) := hid (by rw [hz, HY.out, fresh2]; exact HHE.out)
               have HZO : Hid (OOK z.o ∧ z.o.L.length ≤ 900 ∧ z.o.C.length ≤ 900) := hid (by rw [HZ.out]; exact ⟨HHO2.out.1, Nat.le_trans HHO2.out.2.1 (Nat.zero_le _), Nat.le_trans HHO2.out.2.2 (Nat.zero_le _)⟩)
               clear hz lz s6)
            | (refine wpl_storeA (vs := z.cells) rfl (.tmp 3) (.tmp 27) (by rfl) aggRO (by rfl) (by rfl) (RO.len HZO.out.1.ro) (RO.one _) (St.pick 1 s7) (RO.len HYO.out.ro) ?_; rintro w8 s8
               have lz := roLd HZO.out.1.ro s8
               obtain ⟨e0, e1, e2, e3, e4, _⟩ := msgC (St.pick 3 s8)
               rw [show m.kind = 3 from HKD.out] at e0
               have lm := run_loadG (o := 0) aggRM2 rfl (St.pick 3 s8).rowAll
               rw [show m.high = false from HHI.out] at e3
               have ba := roAct' HZO.out.1.ro s8 hkp
               rw [show memB z.o.V.a (kp : Int) = false from by rw [HZ.out]; exact HAC.out] at ba
               have lw := roLdV HZO.out.1.ro s8
               have sX := s8)
            | (go_at_call 125; refine rfull_c sX HZO.out.1.v.sa (fun q hq => (HZO.out.1.v.na q hq).1) ?_; rw [show decide (z.o.V.am ≤ (z.o.V.a.length : Int)) = false from by rw [HZ.out]; exact HFU.out]; clear lz lm e0 e1 e2 e3 e4 ba lw sX; rintro wX sX; have lz := roLd HZO.out.1.ro sX)
            | (go_at_call 119; refine rraiseO_c (x := z) (p := (kp : Int)) HZO.out.1 HZO.out.2.1 HZO.out.2.2 (St.pick 1 sX) ?_; rintro v wA hv sA
               have HV := hid hv
               have HVO : Hid (OOK v.o ∧ v.o.L.length ≤ 1000) := hid (by rw [hv]; exact ⟨HZO.out.1.raise _, by have := raiseO_len z.o (kp : Int); have := HZO.out.2.1; omega⟩)
               clear hv)
            | (go_at_call 118; refine rsend_c (x := v) (p := (kp : Int)) (m := kindM 4) HVO.out.1.ro HVO.out.2 (St.pick 1 (kindR 4 sA)) ?_; rintro u wB hu sB
               have HU := hid hu
               have HUO : Hid u.ok := hid (by rw [RO.ok, hu]; exact HVO.out.1.ro)
               clear hu)
            | (refine wpl_storeA (vs := u.cells) rfl (.tmp 3) (.tmp 85) (by rfl) aggRO (by rfl) (by rfl) (RO.len HUO.out) (RO.one _) (St.pick 1 sB) (RO.len HZO.out.1.ro) ?_; rintro wC sC
               have lv := roLd HUO.out sC
               have rS := run_storeG aggRO (b := E) (o := 0) ((St.pick 2 sC).roomG zeroRO_len) (RO.oneG HUO.out)
               have s9 := (St.pick 2 sC).setAll (vs := u.cells) (by rw [RO.len HUO.out, zeroRO_len]))
            | fail)
          have hL := run_loadA aggRO (RO.len HUO.out) s9.rowAll
          exact bodyPost_ret (v := .tuple #[.agg u.cells.toArray, .int .i64 0]) (by simp [results, Tryz.results74, asAddr, hL]) rfl (HK.out u 0 none 0 0 _ (by rw [HU.out, HV.out]; show sendO (raiseO z.o (kp : Int)) ⟨(kp : Int), kindM 4⟩ = neighborO (heardO (freshO x.o) (kp : Int)) (kp : Int) m.high; rw [HHE.out, HZ.out]; unfold neighborO fullB; rw [HHI.out, HAC.out, HFU.out]; rfl) rfl (St.drop (St.pick 1 (s9.dropN 2))))
  · obtain ⟨aq, eaq⟩ : ∃ a, H.asked = a := ⟨_, rfl⟩
    have HAQ := hid eaq
    clear eaq
    by_cases hne : aq = (kp : Int)
    · have hb1 : (aq == (kp : Int)) = true := by simpa using hne
      have HNE := hid hne
      clear hne
      go_enter Tryz.func74, Tryz.ntmps74
      go_wp2_with (first
        | (refine wpl_boxA (vs := x.cells) rfl (.tmp 0) rfl rfl st ?_; rintro B w1 s1)
        | (refine wpl_boxA (vs := m.cells) rfl (.tmp 2) rfl rfl s1 ?_; rintro M w2 s2)
        | (refine wpl_allocA rfl rfl zeroRO_z s2 ?_; rintro E w3 s3; have lx := roLd HH.out (St.pick 2 s3))
        | (go_at_call 116; refine rfresh_c HH.out (St.pick 3 s3) ?_; rintro y w4 hy s4
           have HY := hid hy
           have HYO := hid (HO.out.freshRO hy)
           clear hy s3 lx)
        | (refine wpl_storeA (vs := y.cells) rfl (.tmp 3) (.tmp 12) (by rfl) aggRO (by rfl) (by rfl) (RO.len HYO.out.ro) (RO.one _) (St.pick 3 s4) (RO.len HH.out) ?_; rintro w5 s5; have ly := roLd HYO.out.ro s5)
        | (go_at_call 117; refine rnodeO_c HYO.out.ro s5 ?_; rw [HY.out, show onodeB (freshO x.o) (kp : Int) = true from HB.out]; clear ly s5; rintro w5 s5; have ly := roLd HYO.out.ro s5; have lm := run_loadG (o := 0) aggRM2 rfl (St.pick 3 s5).rowAll)
        | (go_at_call 122; refine rfits_c (ks := ks) (es := es) HYO.out.ro (HPS.out.rds _) (HMA.out.rds _) (HEA.out.rds _) s5 ?_; rw [HY.out, show rfitsB (freshO x.o) m ks es = true from HF.out]; clear ly lm s5; rintro w6 s6; have lz := roLd HYO.out.ro s6)
        | (go_at_call 73; refine rhearO_yes HYO.out (by rw [HY.out]; exact HB.out) (St.pick 1 s6) ?_; rintro z w7 hz s7
           have HZ : Hid (z.o = H) := hid (by rw [hz, HY.out, fresh2]; exact HHE.out)
           have HZO : Hid (OOK z.o ∧ z.o.L.length ≤ 900 ∧ z.o.C.length ≤ 900) := hid (by rw [HZ.out]; exact ⟨HHO2.out.1, Nat.le_trans HHO2.out.2.1 (Nat.zero_le _), Nat.le_trans HHO2.out.2.2 (Nat.zero_le _)⟩)
           clear hz lz s6)
        | (refine wpl_storeA (vs := z.cells) rfl (.tmp 3) (.tmp 27) (by rfl) aggRO (by rfl) (by rfl) (RO.len HZO.out.1.ro) (RO.one _) (St.pick 1 s7) (RO.len HYO.out.ro) ?_; rintro w8 s8
           have lz := roLd HZO.out.1.ro s8
           obtain ⟨e0, e1, e2, e3, e4, _⟩ := msgC (St.pick 3 s8)
           rw [show m.kind = 4 from HKD.out] at e0
           have lm := run_loadG (o := 0) aggRM2 rfl (St.pick 3 s8).rowAll
           have c61 := (roC HZO.out.1.ro s8).2.2.2.2.1
           rw [show z.o.asked = aq from by rw [HZ.out]; exact HAQ.out] at c61
           have f61 := roF HZO.out.1.ro s8 61 (by decide)
           have sA := roSetA HZO.out.1.ro s8 (-1)
           have lA := roLd (x := z.withA (-1)) HZO.out.1.ro sA
           have HAO : Hid (OOK (z.withA (-1)).o) := hid (HZO.out.1.asked (-1)))
        | (go_at_call 119; refine rraiseO_c (x := z.withA (-1)) (p := (kp : Int)) HAO.out HZO.out.2.1 HZO.out.2.2 (St.pick 1 sA) ?_; rintro v wB hv sB
           have HV := hid hv
           have HVO : Hid v.ok := hid (by have := HAO.out.raise (kp : Int); rw [← hv] at this; exact this.ro)
           clear hv)
        | (refine wpl_storeA (vs := v.cells) rfl (.tmp 3) (.tmp 99) (by rfl) aggRO (by rfl) (by rfl) (RO.len HVO.out) (RO.one _) (St.pick 1 sB) (RO.len HAO.out.ro) ?_; rintro wC sC
           have lv := roLd HVO.out sC
           have rS := run_storeG aggRO (b := E) (o := 0) ((St.pick 2 sC).roomG zeroRO_len) (RO.oneG HVO.out)
           have s9 := (St.pick 2 sC).setAll (vs := v.cells) (by rw [RO.len HVO.out, zeroRO_len]))
        | fail)
      have hL := run_loadA aggRO (RO.len HVO.out) s9.rowAll
      exact bodyPost_ret (v := .tuple #[.agg v.cells.toArray, .int .i64 0]) (by simp [results, Tryz.results74, asAddr, hL]) rfl (HK.out v 0 none 0 0 _ (by rw [HV.out]; show raiseO { z.o with asked := -1 } (kp : Int) = answerO (heardO (freshO x.o) (kp : Int)) (kp : Int) true; rw [HHE.out, HZ.out]; unfold answerO; rw [if_pos (by rw [HAQ.out]; exact HNE.out), if_pos rfl]) rfl (St.drop (St.pick 1 (s9.dropN 2))))
    · have hb1 : (aq == (kp : Int)) = false := by simpa using hne
      have HNE := hid hne
      clear hne
      go_enter Tryz.func74, Tryz.ntmps74
      go_wp2_with (first
        | (refine wpl_boxA (vs := x.cells) rfl (.tmp 0) rfl rfl st ?_; rintro B w1 s1)
        | (refine wpl_boxA (vs := m.cells) rfl (.tmp 2) rfl rfl s1 ?_; rintro M w2 s2)
        | (refine wpl_allocA rfl rfl zeroRO_z s2 ?_; rintro E w3 s3; have lx := roLd HH.out (St.pick 2 s3))
        | (go_at_call 116; refine rfresh_c HH.out (St.pick 3 s3) ?_; rintro y w4 hy s4
           have HY := hid hy
           have HYO := hid (HO.out.freshRO hy)
           clear hy s3 lx)
        | (refine wpl_storeA (vs := y.cells) rfl (.tmp 3) (.tmp 12) (by rfl) aggRO (by rfl) (by rfl) (RO.len HYO.out.ro) (RO.one _) (St.pick 3 s4) (RO.len HH.out) ?_; rintro w5 s5; have ly := roLd HYO.out.ro s5)
        | (go_at_call 117; refine rnodeO_c HYO.out.ro s5 ?_; rw [HY.out, show onodeB (freshO x.o) (kp : Int) = true from HB.out]; clear ly s5; rintro w5 s5; have ly := roLd HYO.out.ro s5; have lm := run_loadG (o := 0) aggRM2 rfl (St.pick 3 s5).rowAll)
        | (go_at_call 122; refine rfits_c (ks := ks) (es := es) HYO.out.ro (HPS.out.rds _) (HMA.out.rds _) (HEA.out.rds _) s5 ?_; rw [HY.out, show rfitsB (freshO x.o) m ks es = true from HF.out]; clear ly lm s5; rintro w6 s6; have lz := roLd HYO.out.ro s6)
        | (go_at_call 73; refine rhearO_yes HYO.out (by rw [HY.out]; exact HB.out) (St.pick 1 s6) ?_; rintro z w7 hz s7
           have HZ : Hid (z.o = H) := hid (by rw [hz, HY.out, fresh2]; exact HHE.out)
           have HZO : Hid (OOK z.o ∧ z.o.L.length ≤ 900 ∧ z.o.C.length ≤ 900) := hid (by rw [HZ.out]; exact ⟨HHO2.out.1, Nat.le_trans HHO2.out.2.1 (Nat.zero_le _), Nat.le_trans HHO2.out.2.2 (Nat.zero_le _)⟩)
           clear hz lz s6)
        | (refine wpl_storeA (vs := z.cells) rfl (.tmp 3) (.tmp 27) (by rfl) aggRO (by rfl) (by rfl) (RO.len HZO.out.1.ro) (RO.one _) (St.pick 1 s7) (RO.len HYO.out.ro) ?_; rintro w8 s8
           have lz := roLd HZO.out.1.ro s8
           obtain ⟨e0, e1, e2, e3, e4, _⟩ := msgC (St.pick 3 s8)
           rw [show m.kind = 4 from HKD.out] at e0
           have lm := run_loadG (o := 0) aggRM2 rfl (St.pick 3 s8).rowAll
           have c61 := (roC HZO.out.1.ro s8).2.2.2.2.1
           rw [show z.o.asked = aq from by rw [HZ.out]; exact HAQ.out] at c61
           have lv := roLd HZO.out.1.ro s8
           have rS := run_storeG aggRO (b := E) (o := 0) ((St.pick 2 s8).roomG zeroRO_len) (RO.oneG HZO.out.1.ro)
           have s9 := (St.pick 2 s8).setAll (vs := z.cells) (by rw [RO.len HZO.out.1.ro, zeroRO_len]))
        | fail)
      have hL := run_loadA aggRO (RO.len HZO.out.1.ro) s9.rowAll
      exact bodyPost_ret (v := .tuple #[.agg z.cells.toArray, .int .i64 0]) (by simp [results, Tryz.results74, asAddr, hL]) rfl (HK.out z 0 none 0 0 _ (by rw [HZ.out]; show H = answerO (heardO (freshO x.o) (kp : Int)) (kp : Int) true; rw [HHE.out]; unfold answerO; rw [if_neg (by rw [HAQ.out]; exact HNE.out)]) rfl (St.drop (St.pick 1 (s9.dropN 2))))
  · obtain ⟨aq, eaq⟩ : ∃ a, H.asked = a := ⟨_, rfl⟩
    have HAQ := hid eaq
    clear eaq
    by_cases hne : aq = (kp : Int)
    · have hb1 : (aq == (kp : Int)) = true := by simpa using hne
      have HNE := hid hne
      clear hne
      go_enter Tryz.func74, Tryz.ntmps74
      go_wp2_with (first
        | (refine wpl_boxA (vs := x.cells) rfl (.tmp 0) rfl rfl st ?_; rintro B w1 s1)
        | (refine wpl_boxA (vs := m.cells) rfl (.tmp 2) rfl rfl s1 ?_; rintro M w2 s2)
        | (refine wpl_allocA rfl rfl zeroRO_z s2 ?_; rintro E w3 s3; have lx := roLd HH.out (St.pick 2 s3))
        | (go_at_call 116; refine rfresh_c HH.out (St.pick 3 s3) ?_; rintro y w4 hy s4
           have HY := hid hy
           have HYO := hid (HO.out.freshRO hy)
           clear hy s3 lx)
        | (refine wpl_storeA (vs := y.cells) rfl (.tmp 3) (.tmp 12) (by rfl) aggRO (by rfl) (by rfl) (RO.len HYO.out.ro) (RO.one _) (St.pick 3 s4) (RO.len HH.out) ?_; rintro w5 s5; have ly := roLd HYO.out.ro s5)
        | (go_at_call 117; refine rnodeO_c HYO.out.ro s5 ?_; rw [HY.out, show onodeB (freshO x.o) (kp : Int) = true from HB.out]; clear ly s5; rintro w5 s5; have ly := roLd HYO.out.ro s5; have lm := run_loadG (o := 0) aggRM2 rfl (St.pick 3 s5).rowAll)
        | (go_at_call 122; refine rfits_c (ks := ks) (es := es) HYO.out.ro (HPS.out.rds _) (HMA.out.rds _) (HEA.out.rds _) s5 ?_; rw [HY.out, show rfitsB (freshO x.o) m ks es = true from HF.out]; clear ly lm s5; rintro w6 s6; have lz := roLd HYO.out.ro s6)
        | (go_at_call 73; refine rhearO_yes HYO.out (by rw [HY.out]; exact HB.out) (St.pick 1 s6) ?_; rintro z w7 hz s7
           have HZ : Hid (z.o = H) := hid (by rw [hz, HY.out, fresh2]; exact HHE.out)
           have HZO : Hid (OOK z.o ∧ z.o.L.length ≤ 900 ∧ z.o.C.length ≤ 900) := hid (by rw [HZ.out]; exact ⟨HHO2.out.1, Nat.le_trans HHO2.out.2.1 (Nat.zero_le _), Nat.le_trans HHO2.out.2.2 (Nat.zero_le _)⟩)
           clear hz lz s6)
        | (refine wpl_storeA (vs := z.cells) rfl (.tmp 3) (.tmp 27) (by rfl) aggRO (by rfl) (by rfl) (RO.len HZO.out.1.ro) (RO.one _) (St.pick 1 s7) (RO.len HYO.out.ro) ?_; rintro w8 s8
           have lz := roLd HZO.out.1.ro s8
           obtain ⟨e0, e1, e2, e3, e4, _⟩ := msgC (St.pick 3 s8)
           rw [show m.kind = 5 from HKD.out] at e0
           have lm := run_loadG (o := 0) aggRM2 rfl (St.pick 3 s8).rowAll
           have c61 := (roC HZO.out.1.ro s8).2.2.2.2.1
           rw [show z.o.asked = aq from by rw [HZ.out]; exact HAQ.out] at c61
           have f61 := roF HZO.out.1.ro s8 61 (by decide)
           have sA := roSetA HZO.out.1.ro s8 (-1)
           have lv := roLd (show (z.withA (-1)).ok from HZO.out.1.ro) sA
           have rS := run_storeG aggRO (b := E) (o := 0) ((St.pick 2 sA).roomG zeroRO_len) (RO.oneG (show (z.withA (-1)).ok from HZO.out.1.ro))
           have s9 := (St.pick 2 sA).setAll (vs := (z.withA (-1)).cells) (by rw [RO.len (show (z.withA (-1)).ok from HZO.out.1.ro), zeroRO_len]))
        | fail)
      have hL := run_loadA aggRO (RO.len (show (z.withA (-1)).ok from HZO.out.1.ro)) s9.rowAll
      exact bodyPost_ret (v := .tuple #[.agg (z.withA (-1)).cells.toArray, .int .i64 0]) (by simp [results, Tryz.results74, asAddr, hL]) rfl (HK.out (z.withA (-1)) 0 none 0 0 _ (by show ({ z.o with asked := -1 } : OV) = answerO (heardO (freshO x.o) (kp : Int)) (kp : Int) false; rw [HHE.out, HZ.out]; unfold answerO; rw [if_pos (by rw [HAQ.out]; exact HNE.out), if_neg Bool.noConfusion]) rfl (St.drop (St.pick 1 (s9.dropN 2))))
    · have hb1 : (aq == (kp : Int)) = false := by simpa using hne
      have HNE := hid hne
      clear hne
      go_enter Tryz.func74, Tryz.ntmps74
      go_wp2_with (first
        | (refine wpl_boxA (vs := x.cells) rfl (.tmp 0) rfl rfl st ?_; rintro B w1 s1)
        | (refine wpl_boxA (vs := m.cells) rfl (.tmp 2) rfl rfl s1 ?_; rintro M w2 s2)
        | (refine wpl_allocA rfl rfl zeroRO_z s2 ?_; rintro E w3 s3; have lx := roLd HH.out (St.pick 2 s3))
        | (go_at_call 116; refine rfresh_c HH.out (St.pick 3 s3) ?_; rintro y w4 hy s4
           have HY := hid hy
           have HYO := hid (HO.out.freshRO hy)
           clear hy s3 lx)
        | (refine wpl_storeA (vs := y.cells) rfl (.tmp 3) (.tmp 12) (by rfl) aggRO (by rfl) (by rfl) (RO.len HYO.out.ro) (RO.one _) (St.pick 3 s4) (RO.len HH.out) ?_; rintro w5 s5; have ly := roLd HYO.out.ro s5)
        | (go_at_call 117; refine rnodeO_c HYO.out.ro s5 ?_; rw [HY.out, show onodeB (freshO x.o) (kp : Int) = true from HB.out]; clear ly s5; rintro w5 s5; have ly := roLd HYO.out.ro s5; have lm := run_loadG (o := 0) aggRM2 rfl (St.pick 3 s5).rowAll)
        | (go_at_call 122; refine rfits_c (ks := ks) (es := es) HYO.out.ro (HPS.out.rds _) (HMA.out.rds _) (HEA.out.rds _) s5 ?_; rw [HY.out, show rfitsB (freshO x.o) m ks es = true from HF.out]; clear ly lm s5; rintro w6 s6; have lz := roLd HYO.out.ro s6)
        | (go_at_call 73; refine rhearO_yes HYO.out (by rw [HY.out]; exact HB.out) (St.pick 1 s6) ?_; rintro z w7 hz s7
           have HZ : Hid (z.o = H) := hid (by rw [hz, HY.out, fresh2]; exact HHE.out)
           have HZO : Hid (OOK z.o ∧ z.o.L.length ≤ 900 ∧ z.o.C.length ≤ 900) := hid (by rw [HZ.out]; exact ⟨HHO2.out.1, Nat.le_trans HHO2.out.2.1 (Nat.zero_le _), Nat.le_trans HHO2.out.2.2 (Nat.zero_le _)⟩)
           clear hz lz s6)
        | (refine wpl_storeA (vs := z.cells) rfl (.tmp 3) (.tmp 27) (by rfl) aggRO (by rfl) (by rfl) (RO.len HZO.out.1.ro) (RO.one _) (St.pick 1 s7) (RO.len HYO.out.ro) ?_; rintro w8 s8
           have lz := roLd HZO.out.1.ro s8
           obtain ⟨e0, e1, e2, e3, e4, _⟩ := msgC (St.pick 3 s8)
           rw [show m.kind = 5 from HKD.out] at e0
           have lm := run_loadG (o := 0) aggRM2 rfl (St.pick 3 s8).rowAll
           have c61 := (roC HZO.out.1.ro s8).2.2.2.2.1
           rw [show z.o.asked = aq from by rw [HZ.out]; exact HAQ.out] at c61
           have lv := roLd HZO.out.1.ro s8
           have rS := run_storeG aggRO (b := E) (o := 0) ((St.pick 2 s8).roomG zeroRO_len) (RO.oneG HZO.out.1.ro)
           have s9 := (St.pick 2 s8).setAll (vs := z.cells) (by rw [RO.len HZO.out.1.ro, zeroRO_len]))
        | fail)
      have hL := run_loadA aggRO (RO.len HZO.out.1.ro) s9.rowAll
      exact bodyPost_ret (v := .tuple #[.agg z.cells.toArray, .int .i64 0]) (by simp [results, Tryz.results74, asAddr, hL]) rfl (HK.out z 0 none 0 0 _ (by rw [HZ.out]; show H = answerO (heardO (freshO x.o) (kp : Int)) (kp : Int) false; rw [HHE.out]; unfold answerO; rw [if_neg (by rw [HAQ.out]; exact HNE.out)]) rfl (St.drop (St.pick 1 (s9.dropN 2))))
  · go_enter Tryz.func74, Tryz.ntmps74
    go_wp2_with (first
      | (refine wpl_boxA (vs := x.cells) rfl (.tmp 0) rfl rfl st ?_; rintro B w1 s1)
      | (refine wpl_boxA (vs := m.cells) rfl (.tmp 2) rfl rfl s1 ?_; rintro M w2 s2)
      | (refine wpl_allocA rfl rfl zeroRO_z s2 ?_; rintro E w3 s3; have lx := roLd HH.out (St.pick 2 s3))
      | (go_at_call 116; refine rfresh_c HH.out (St.pick 3 s3) ?_; rintro y w4 hy s4
         have HY := hid hy
         have HYO := hid (HO.out.freshRO hy)
         clear hy s3 lx)
      | (refine wpl_storeA (vs := y.cells) rfl (.tmp 3) (.tmp 12) (by rfl) aggRO (by rfl) (by rfl) (RO.len HYO.out.ro) (RO.one _) (St.pick 3 s4) (RO.len HH.out) ?_; rintro w5 s5; have ly := roLd HYO.out.ro s5)
      | (go_at_call 117; refine rnodeO_c HYO.out.ro s5 ?_; rw [HY.out, show onodeB (freshO x.o) (kp : Int) = true from HB.out]; clear ly s5; rintro w5 s5; have ly := roLd HYO.out.ro s5; have lm := run_loadG (o := 0) aggRM2 rfl (St.pick 3 s5).rowAll)
      | (go_at_call 122; refine rfits_c (ks := ks) (es := es) HYO.out.ro (HPS.out.rds _) (HMA.out.rds _) (HEA.out.rds _) s5 ?_; rw [HY.out, show rfitsB (freshO x.o) m ks es = true from HF.out]; clear ly lm s5; rintro w6 s6; have lz := roLd HYO.out.ro s6)
      | (go_at_call 73; refine rhearO_yes HYO.out (by rw [HY.out]; exact HB.out) (St.pick 1 s6) ?_; rintro z w7 hz s7
         have HZ : Hid (z.o = H) := hid (by rw [hz, HY.out, fresh2]; exact HHE.out)
         have HZO : Hid (OOK z.o ∧ z.o.L.length ≤ 900 ∧ z.o.C.length ≤ 900) := hid (by rw [HZ.out]; exact ⟨HHO2.out.1, Nat.le_trans HHO2.out.2.1 (Nat.zero_le _), Nat.le_trans HHO2.out.2.2 (Nat.zero_le _)⟩)
         clear hz lz s6)
      | (refine wpl_storeA (vs := z.cells) rfl (.tmp 3) (.tmp 27) (by rfl) aggRO (by rfl) (by rfl) (RO.len HZO.out.1.ro) (RO.one _) (St.pick 1 s7) (RO.len HYO.out.ro) ?_; rintro w8 s8
         have lz := roLd HZO.out.1.ro s8
         obtain ⟨e0, e1, e2, e3, e4, _⟩ := msgC (St.pick 3 s8)
         rw [show m.kind = 6 from HKD.out] at e0
         have lm := run_loadG (o := 0) aggRM2 rfl (St.pick 3 s8).rowAll)
      | (go_at_call 120; refine rlowerO_c (x := z) HZO.out.1 (Nat.le_trans HZO.out.2.2 (by decide)) (St.pick 1 s8) ?_; rintro v wA hv sA
         have HV := hid hv
         have HVO : Hid v.ok := hid (by have := HZO.out.1.lower (kp : Int); rw [← hv] at this; exact this.ro)
         clear hv)
      | (refine wpl_storeA (vs := v.cells) rfl (.tmp 3) (.tmp 111) (by rfl) aggRO (by rfl) (by rfl) (RO.len HVO.out) (RO.one _) (St.pick 1 sA) (RO.len HZO.out.1.ro) ?_; rintro wB sB
         have lv := roLd HVO.out sB
         have rS := run_storeG aggRO (b := E) (o := 0) ((St.pick 2 sB).roomG zeroRO_len) (RO.oneG HVO.out)
         have s9 := (St.pick 2 sB).setAll (vs := v.cells) (by rw [RO.len HVO.out, zeroRO_len]))
      | fail)
    have hL := run_loadA aggRO (RO.len HVO.out) s9.rowAll
    exact bodyPost_ret (v := .tuple #[.agg v.cells.toArray, .int .i64 0]) (by simp [results, Tryz.results74, asAddr, hL]) rfl (HK.out v 0 none 0 0 _ (by rw [HV.out, HZ.out, ← HHE.out]; rfl) rfl (St.drop (St.pick 1 (s9.dropN 2))))
  · go_enter Tryz.func74, Tryz.ntmps74
    go_wp2_with (first
      | (refine wpl_boxA (vs := x.cells) rfl (.tmp 0) rfl rfl st ?_; rintro B w1 s1)
      | (refine wpl_boxA (vs := m.cells) rfl (.tmp 2) rfl rfl s1 ?_; rintro M w2 s2)
      | (refine wpl_allocA rfl rfl zeroRO_z s2 ?_; rintro E w3 s3; have lx := roLd HH.out (St.pick 2 s3))
      | (go_at_call 116; refine rfresh_c HH.out (St.pick 3 s3) ?_; rintro y w4 hy s4
         have HY := hid hy
         have HYO := hid (HO.out.freshRO hy)
         clear hy s3 lx)
      | (refine wpl_storeA (vs := y.cells) rfl (.tmp 3) (.tmp 12) (by rfl) aggRO (by rfl) (by rfl) (RO.len HYO.out.ro) (RO.one _) (St.pick 3 s4) (RO.len HH.out) ?_; rintro w5 s5; have ly := roLd HYO.out.ro s5)
      | (go_at_call 117; refine rnodeO_c HYO.out.ro s5 ?_; rw [HY.out, show onodeB (freshO x.o) (kp : Int) = true from HB.out]; clear ly s5; rintro w5 s5; have ly := roLd HYO.out.ro s5; have lm := run_loadG (o := 0) aggRM2 rfl (St.pick 3 s5).rowAll)
      | (go_at_call 122; refine rfits_c (ks := ks) (es := es) HYO.out.ro (HPS.out.rds _) (HMA.out.rds _) (HEA.out.rds _) s5 ?_; rw [HY.out, show rfitsB (freshO x.o) m ks es = true from HF.out]; clear ly lm s5; rintro w6 s6; have lz := roLd HYO.out.ro s6)
      | (go_at_call 73; refine rhearO_yes HYO.out (by rw [HY.out]; exact HB.out) (St.pick 1 s6) ?_; rintro z w7 hz s7
         have HZ : Hid (z.o = H) := hid (by rw [hz, HY.out, fresh2]; exact HHE.out)
         have HZO : Hid (OOK z.o ∧ z.o.L.length ≤ 900 ∧ z.o.C.length ≤ 900) := hid (by rw [HZ.out]; exact ⟨HHO2.out.1, Nat.le_trans HHO2.out.2.1 (Nat.zero_le _), Nat.le_trans HHO2.out.2.2 (Nat.zero_le _)⟩)
         clear hz lz s6)
      | (refine wpl_storeA (vs := z.cells) rfl (.tmp 3) (.tmp 27) (by rfl) aggRO (by rfl) (by rfl) (RO.len HZO.out.1.ro) (RO.one _) (St.pick 1 s7) (RO.len HYO.out.ro) ?_; rintro w8 s8
         have lz := roLd HZO.out.1.ro s8
         obtain ⟨e0, e1, e2, e3, e4, _⟩ := msgC (St.pick 3 s8)
         rw [show m.kind = 7 from HKD.out] at e0
         have lm := run_loadG (o := 0) aggRM2 rfl (St.pick 3 s8).rowAll)
      | (go_at_call 126; refine rshuffleO_c (x := z) HZO.out.1 HZO.out.2 HHO.out HPE.out HPN.out (St.pick 1 (RdH.old HPS.out (St.pick 1 s8))) ?_; rintro v pa pn pc wA hv sA
         have HV := hid hv
         have HVO : Hid v.ok := hid (by rw [RO.ok, hv]; exact (shuffle_ok HZO.out.1 _ _ _ _ _).ro')
         clear hv)
      | (refine wpl_storeA (vs := v.cells) rfl (.tmp 3) (.tmp 117) (by rfl) aggRO (by rfl) (by rfl) (RO.len HVO.out) (RO.one _) (St.pick 1 sA) (RO.len HZO.out.1.ro) ?_; rintro wB sB
         have lv := roLd HVO.out sB
         have rS := run_storeG aggRO (b := E) (o := 0) ((St.pick 2 sB).roomG zeroRO_len) (RO.oneG HVO.out)
         have s9 := (St.pick 2 sB).setAll (vs := v.cells) (by rw [RO.len HVO.out, zeroRO_len]))
      | fail)
    have hL := run_loadA aggRO (RO.len HVO.out) s9.rowAll
    exact bodyPost_ret (v := .tuple #[.agg v.cells.toArray, .int .i64 0]) (by simp [results, Tryz.results74, asAddr, hL]) rfl (HK.out v 0 pa pn pc _ (by rw [HV.out, HZ.out, ← HHE.out]; rfl) rfl (St.drop (St.pick 1 (s9.dropN 2))))
  · go_enter Tryz.func74, Tryz.ntmps74
    go_wp2_with (first
      | (refine wpl_boxA (vs := x.cells) rfl (.tmp 0) rfl rfl st ?_; rintro B w1 s1)
      | (refine wpl_boxA (vs := m.cells) rfl (.tmp 2) rfl rfl s1 ?_; rintro M w2 s2)
      | (refine wpl_allocA rfl rfl zeroRO_z s2 ?_; rintro E w3 s3; have lx := roLd HH.out (St.pick 2 s3))
      | (go_at_call 116; refine rfresh_c HH.out (St.pick 3 s3) ?_; rintro y w4 hy s4
         have HY := hid hy
         have HYO := hid (HO.out.freshRO hy)
         clear hy s3 lx)
      | (refine wpl_storeA (vs := y.cells) rfl (.tmp 3) (.tmp 12) (by rfl) aggRO (by rfl) (by rfl) (RO.len HYO.out.ro) (RO.one _) (St.pick 3 s4) (RO.len HH.out) ?_; rintro w5 s5; have ly := roLd HYO.out.ro s5)
      | (go_at_call 117; refine rnodeO_c HYO.out.ro s5 ?_; rw [HY.out, show onodeB (freshO x.o) (kp : Int) = true from HB.out]; clear ly s5; rintro w5 s5; have ly := roLd HYO.out.ro s5; have lm := run_loadG (o := 0) aggRM2 rfl (St.pick 3 s5).rowAll)
      | (go_at_call 122; refine rfits_c (ks := ks) (es := es) HYO.out.ro (HPS.out.rds _) (HMA.out.rds _) (HEA.out.rds _) s5 ?_; rw [HY.out, show rfitsB (freshO x.o) m ks es = true from HF.out]; clear ly lm s5; rintro w6 s6; have lz := roLd HYO.out.ro s6)
      | (go_at_call 73; refine rhearO_yes HYO.out (by rw [HY.out]; exact HB.out) (St.pick 1 s6) ?_; rintro z w7 hz s7
         have HZ : Hid (z.o = H) := hid (by rw [hz, HY.out, fresh2]; exact HHE.out)
         have HZO : Hid (OOK z.o ∧ z.o.L.length ≤ 900 ∧ z.o.C.length ≤ 900) := hid (by rw [HZ.out]; exact ⟨HHO2.out.1, Nat.le_trans HHO2.out.2.1 (Nat.zero_le _), Nat.le_trans HHO2.out.2.2 (Nat.zero_le _)⟩)
         clear hz lz s6)
      | (refine wpl_storeA (vs := z.cells) rfl (.tmp 3) (.tmp 27) (by rfl) aggRO (by rfl) (by rfl) (RO.len HZO.out.1.ro) (RO.one _) (St.pick 1 s7) (RO.len HYO.out.ro) ?_; rintro w8 s8
         have lz := roLd HZO.out.1.ro s8
         obtain ⟨e0, e1, e2, e3, e4, _⟩ := msgC (St.pick 3 s8)
         rw [show m.kind = 8 from HKD.out] at e0
         have lm := run_loadG (o := 0) aggRM2 rfl (St.pick 3 s8).rowAll)
      | fail)
    clear e0 e1 e2 e3 e4 lz lm s7
    obtain ⟨pn, hpn⟩ : ∃ pn, m.pn = pn := ⟨_, rfl⟩
    have HPN2 := hid hpn
    have hpn8 : pn ≤ 8 := by rw [← hpn]; exact HPN.out
    clear hpn
    go_loopw [10] (fun ii wr => ∃ (i : Nat) (v : RO), i ≤ pn ∧ ii = .int .i64 i ∧ Hid (v.o = learnAllO z.o (m.ps.take i)) ∧ St W wr (row B 0 v.cells :: v.mem W :: row E 0 zeroRO.cells :: row M 0 m.cells :: R)) (fun ii _ => pn - (intOf ii).toNat)
    case atStart => exact ⟨0, z, Nat.zero_le _, rfl, hid rfl, s8⟩
    case round =>
      clear s8
      obtain ⟨i, v, hi, rfl, HV, sr⟩ := hrel
      have HVO : Hid (OOK v.o) := hid (by rw [HV.out]; exact HZO.out.1.learnAll _)
      by_cases hlt : i < pn
      · have hi2 : (i : Int) < (pn : Int) := by omega
        have rd := HPS.out.st sr.drew
        obtain ⟨g3, o3, hg⟩ := rd.addr (by rw [HPN2.out]; omega)
        have hiA : i < m.ps.length := by rw [HPL.out, HPN2.out]; exact hlt
        rw [hg] at rd
        have ci := rd.at (ivs_get hiA)
        have hsn := learnAll_snoc z.o hiA
        obtain ⟨t, ht⟩ : ∃ t, m.ps[i] = t := ⟨_, rfl⟩
        rw [ht] at ci hsn
        rw [← HV.out] at hsn
        have HSN := hid hsn
        obtain ⟨_, _, _, _, m4, _⟩ := msgC (St.pick 3 sr)
        obtain ⟨_, _, _, _, k4, _⟩ := msgC (St.pick 3 sr.drew)
        rw [hg, HPN2.out] at m4 k4
        have lz := roLd HVO.out.ro sr.drew
        have u := sr.drew
        clear ht rd hiA hsn hg
        go_wp2_with fail
        go_region_law (go_simp; go_at_call 121; refine rlearnO_c (x := v) (p := t) HVO.out (St.pick 1 u) ?_; rintro q w7 hq s7; have HQ := hid hq; have HQO : Hid (OOK q.o) := hid (by rw [hq]; exact HVO.out.learn t); have rS := run_storeG aggRO (b := B) (o := 0) ((St.pick 1 s7).roomG (RO.len HVO.out.ro)) (RO.oneG HQO.out.ro); have s8 := (St.pick 1 s7).setAll (vs := q.cells) (by rw [RO.len HQO.out.ro, RO.len HVO.out.ro]); clear hq)
        all_goals
          go_wp2_with fail
          go_roundw
          case rel => exact ⟨i + 1, q, by omega, by go_num, hid (by rw [HSN.out]; exact HQ.out), s8⟩
          case measure => simp [intOf]; omega
      · have hie : pn = i := by omega
        subst hie
        rw [List.take_of_length_le (by rw [HPL.out, HPN2.out]; exact Nat.le_refl _)] at HV
        obtain ⟨_, _, _, _, m4, _⟩ := msgC (St.pick 3 sr)
        rw [HPN2.out] at m4
        have lv := roLd HVO.out.ro sr
        have rS := run_storeG aggRO (b := E) (o := 0) ((St.pick 2 sr).roomG zeroRO_len) (RO.oneG HVO.out.ro)
        have s9 := (St.pick 2 sr).setAll (vs := v.cells) (by rw [RO.len HVO.out.ro, zeroRO_len])
        go_wp2_with fail
        have hL := run_loadA aggRO (RO.len HVO.out.ro) s9.rowAll
        exact bodyPost_ret (v := .tuple #[.agg v.cells.toArray, .int .i64 0]) (by simp [results, Tryz.results74, asAddr, hL]) rfl (HK.out v 0 none 0 0 _ (by rw [HV.out, HZ.out, ← HHE.out]; rfl) rfl (St.drop (St.pick 1 (s9.dropN 2))))
  · go_enter Tryz.func74, Tryz.ntmps74
    go_wp2_with (first
      | (refine wpl_boxA (vs := x.cells) rfl (.tmp 0) rfl rfl st ?_; rintro B w1 s1)
      | (refine wpl_boxA (vs := m.cells) rfl (.tmp 2) rfl rfl s1 ?_; rintro M w2 s2)
      | (refine wpl_allocA rfl rfl zeroRO_z s2 ?_; rintro E w3 s3; have lx := roLd HH.out (St.pick 2 s3))
      | (go_at_call 116; refine rfresh_c HH.out (St.pick 3 s3) ?_; rintro y w4 hy s4
         have HY := hid hy
         have HYO := hid (HO.out.freshRO hy)
         clear hy s3 lx)
      | (refine wpl_storeA (vs := y.cells) rfl (.tmp 3) (.tmp 12) (by rfl) aggRO (by rfl) (by rfl) (RO.len HYO.out.ro) (RO.one _) (St.pick 3 s4) (RO.len HH.out) ?_; rintro w5 s5; have ly := roLd HYO.out.ro s5)
      | (go_at_call 117; refine rnodeO_c HYO.out.ro s5 ?_; rw [HY.out, show onodeB (freshO x.o) (kp : Int) = true from HB.out]; clear ly s5; rintro w5 s5; have ly := roLd HYO.out.ro s5; have lm := run_loadG (o := 0) aggRM2 rfl (St.pick 3 s5).rowAll)
      | (go_at_call 122; refine rfits_c (ks := ks) (es := es) HYO.out.ro (HPS.out.rds _) (HMA.out.rds _) (HEA.out.rds _) s5 ?_; rw [HY.out, show rfitsB (freshO x.o) m ks es = true from HF.out]; clear ly lm s5; rintro w6 s6; have lz := roLd HYO.out.ro s6)
      | (go_at_call 73; refine rhearO_yes HYO.out (by rw [HY.out]; exact HB.out) (St.pick 1 s6) ?_; rintro z w7 hz s7
         have HZ : Hid (z.o = H) := hid (by rw [hz, HY.out, fresh2]; exact HHE.out)
         have HZO : Hid (OOK z.o ∧ z.o.L.length ≤ 900 ∧ z.o.C.length ≤ 900) := hid (by rw [HZ.out]; exact ⟨HHO2.out.1, Nat.le_trans HHO2.out.2.1 (Nat.zero_le _), Nat.le_trans HHO2.out.2.2 (Nat.zero_le _)⟩)
         clear hz lz s6)
      | (refine wpl_storeA (vs := z.cells) rfl (.tmp 3) (.tmp 27) (by rfl) aggRO (by rfl) (by rfl) (RO.len HZO.out.1.ro) (RO.one _) (St.pick 1 s7) (RO.len HYO.out.ro) ?_; rintro w8 s8
         have lz := roLd HZO.out.1.ro s8
         obtain ⟨e0, e1, e2, e3, e4, _⟩ := msgC (St.pick 3 s8)
         rw [show m.kind = 9 from HKD.out] at e0
         have lm := run_loadG (o := 0) aggRM2 rfl (St.pick 3 s8).rowAll
         have lv := roLd HZO.out.1.ro s8
         have rS := run_storeG aggRO (b := E) (o := 0) ((St.pick 2 s8).roomG zeroRO_len) (RO.oneG HZO.out.1.ro)
         have s9 := (St.pick 2 s8).setAll (vs := z.cells) (by rw [RO.len HZO.out.1.ro, zeroRO_len]))
      | fail)
    have hL := run_loadA aggRO (RO.len HZO.out.1.ro) s9.rowAll
    exact bodyPost_ret (v := .tuple #[.agg z.cells.toArray, .int .i64 0]) (by simp [results, Tryz.results74, asAddr, hL]) rfl (HK.out z 0 none 0 0 _ (by rw [HZ.out, ← HHE.out]; rfl) rfl (St.drop (St.pick 1 (s9.dropN 2))))

end

end Go.Proofs.YtbpdchaeakihkaaGreat

/- The program's changes as the document's; what an act does with the document's overlay. -/
namespace Go.Proofs.YtbpdchaeakihkaaGreat
open Go.RowKit Go.Qd

/-- What an act does with the document's overlay. -/
inductive RStep (O : OV) (q : OAct) : OV → Int → Prop
  | joinNo (hk : q.kind = 0) (hn : onodeB O q.peer = false) : RStep O q (freshO O) 1
  | join (hk : q.kind = 0) (hn : onodeB O q.peer = true) : RStep O q (sendO (raiseO (freshO O) q.peer) ⟨q.peer, kindM 1⟩) 0
  | leave (hk : q.kind = 1) : RStep O q (leaveO (freshO O)) 0
  | hearNo (hk : q.kind = 2) (hn : onodeB O q.peer = false) : RStep O q (freshO O) 1
  | hear (hk : q.kind = 2) (hn : onodeB O q.peer = true) : RStep O q (heardO (freshO O) q.peer) 0
  | takeNo (hk : q.kind = 3) (hn : onodeB O q.peer = false) : RStep O q (freshO O) 1
  | takeBad (hk : q.kind = 3) (hn : onodeB O q.peer = true) (hf : rfitsB O q.m q.ks q.es = false) : RStep O q (freshO O) 4
  | take (hk : q.kind = 3) (hn : onodeB O q.peer = true) (hf : rfitsB O q.m q.ks q.es = true) (k : Nat) (h1 : 1 ≤ k) (h9 : k ≤ 9) (hm : q.m.kind = k) (pa : Option Addr) (pn pc : Nat) : RStep O q (takeO (freshO O) q.peer q.m k pa pn pc) 0
  | tick (hk : q.kind ≠ 0 ∧ q.kind ≠ 1 ∧ q.kind ≠ 2 ∧ q.kind ≠ 3) (pa : Option Addr) (pn pc : Nat) : RStep O q (tickR (freshO O) pa pn pc) 0

theorem rfits_facts {O : OV} (h : OOK O) {m : MsgV} {ks : List MkV} {es : List EnV} (hf : rfitsB O m ks es = true) : ∃ k : Nat, 1 ≤ k ∧ k ≤ 9 ∧ m.kind = k ∧ (0 ≤ m.hops ∧ m.hops ≤ 1000) ∧ (0 ≤ m.peer ∧ m.peer < 12) ∧ m.pn ≤ 8 := by
  unfold rfitsB rgoodK rgoodB headB cntB at hf
  simp only [Bool.and_eq_true, decide_eq_true_eq, Bool.not_eq_true', decide_eq_false_iff_not] at hf
  obtain ⟨⟨h1, _, ⟨⟨_, _, _, _, h8⟩, _, _, h2, h3, _⟩, _⟩, h9, h10, _⟩ := hf
  refine ⟨m.kind.toNat, by omega, by omega, by omega, ⟨by omega, by omega⟩, there_lt h h10, by omega⟩

theorem OOK.ro_len {O : OV} (h : OOK O) : O.cfg.length = 20 ∧ O.heard.length = 12 := ⟨h.cl, h.hl⟩
theorem takeO_len2 {O : OV} (h : OOK O) (p : Int) (m : MsgV) {k : Nat} (h1 : 1 ≤ k) (h9 : k ≤ 9) (pa : Option Addr) (pn pc : Nat) : (takeO O p m k pa pn pc).cfg.length = 20 ∧ (takeO O p m k pa pn pc).heard.length = 12 := by
  have hh := h.heard p
  have hcase : k = 1 ∨ k = 2 ∨ k = 3 ∨ k = 4 ∨ k = 5 ∨ k = 6 ∨ k = 7 ∨ k = 8 ∨ k = 9 := by omega
  rcases hcase with rfl | rfl | rfl | rfl | rfl | rfl | rfl | rfl | rfl
  · exact (hh.raise p).ro_len
  · exact (forward_ok hh p m pa pc).ro'
  · show (neighborO (heardO O p) p m.high).cfg.length = 20 ∧ (neighborO (heardO O p) p m.high).heard.length = 12
    unfold neighborO
    split
    · exact hh.ro_len
    · exact (hh.raise p).ro_len
  · show (answerO (heardO O p) p true).cfg.length = 20 ∧ (answerO (heardO O p) p true).heard.length = 12
    unfold answerO
    split
    · exact ((hh.asked (-1)).raise p).ro_len
    · exact hh.ro_len
  · show (answerO (heardO O p) p false).cfg.length = 20 ∧ (answerO (heardO O p) p false).heard.length = 12
    unfold answerO
    split
    · exact hh.ro_len
    · exact hh.ro_len
  · exact (hh.lower p).ro_len
  · exact (shuffle_ok hh p m pa pn pc).ro'
  · exact (hh.learnAll m.ps).ro_len
  · exact hh.ro_len
theorem tickR_len2 {O : OV} (h : OOK O) (pa : Option Addr) (pn pc : Nat) : (tickR O pa pn pc).cfg.length = 20 ∧ (tickR O pa pn pc).heard.length = 12 := by
  have hs : ∀ (l : List Int) (P : OV), (P.cfg.length = 20 ∧ P.heard.length = 12) → ((silentO P l).cfg.length = 20 ∧ (silentO P l).heard.length = 12) := by
    intro l
    induction l with
    | nil => exact fun _ h => h
    | cons a l ih =>
      intro P hP
      refine ih (stepS P a) ⟨?_, ?_⟩
      · have : (stepS P a).cfg = P.cfg := by unfold stepS; split; (unfold lowerO; split <;> rfl); rfl
        rw [this]; exact hP.1
      · rw [stepS_heard, List.length_set]; exact hP.2
  have h1 := hs O.V.a { O with ticks := O.ticks + 1 } ⟨h.cl, h.hl⟩
  have ha : ∀ P : OV, (askO P).cfg = P.cfg ∧ (askO P).heard = P.heard := by
    intro P
    have e : (askO1 P).cfg = P.cfg ∧ (askO1 P).heard = P.heard := by unfold askO1; split <;> exact ⟨rfl, rfl⟩
    unfold askO
    split
    · exact ⟨rfl, rfl⟩
    · unfold askO2
      split
      · exact e
      · exact e
  have h2 : (tick1 O).cfg.length = 20 ∧ (tick1 O).heard.length = 12 := by
    unfold tick1
    rw [(ha _).1, (ha _).2]
    exact h1
  unfold tickR
  split
  · unfold beatO
    split
    · exact h2
    · exact h2
  · exact h2
theorem execOp_ldAct (ρ : Operand → Value) (dst : Option Tmp) (a : Operand) (ty : TypeId) (pos : String) (after : Array Edge) (guard : Option (Nat × Bool)) :
    execOp ρ { dst, op := .load 77 a, type := ty, pos, after, guard } = (do pure (.value (← loadG 77 (ρ a)))) := rfl
section
variable {W w : World} {R : List HP} {post : Ending → World → Prop} {x : RO} {q : OAct}
attribute [local go_sem ↓] execOp_ldRM2 execOp_ldRO execOp_stRO

theorem actC {P : Nat} (s : St W w (row P 0 q.cells :: R)) : w.cell? ⟨P, 0, none⟩ = some (.int .i64 q.kind) ∧ w.cell? ⟨P, 1, none⟩ = some (.int .i64 q.peer) ∧ (loadG 75 (.pointer (some ⟨P, 2, none⟩))).run Tryz.prog w = .ok (.agg q.m.cells.toArray) w := by
  have c0 := s.rowCell (i := 0) (v := .int .i64 q.kind) rfl
  have c1 := s.rowCell (i := 1) (v := .int .i64 q.peer) rfl
  rw [Nat.zero_add] at c1
  exact ⟨c0, c1, run_loadG (o := 0 + 2) aggRM2 rfl (St.rowPart s 2 (xs := q.m.cells) (ys := []) (by rw [List.append_nil]; rfl))⟩

set_option maxRecDepth 100000 in
set_option maxHeartbeats 16000000 in
theorem rmodel_c (h : OOK x.o) (hh : ∀ j : Nat, 0 ≤ x.o.heard.getD j 0 ∧ x.o.heard.getD j 0 ≤ 1000000) (ht : 0 ≤ x.o.ticks ∧ x.o.ticks ≤ 1000000) (hs : 0 ≤ x.o.since ∧ x.o.since ≤ 4) (ha : x.o.asked = -1 ∨ 0 ≤ x.o.asked)
    (hps : RdS W 1 q.m.pa q.m.pn q.m.pc (ivs q.m.ps)) (hma : RdS W 3 q.m.ma q.m.mn q.m.mq (mkC q.ks)) (hea : RdS W 9 q.m.ea q.m.en q.m.eq (enC q.es))
    (st : St W w (x.mem W :: R)) (K : ∀ (x' : RO) e w', RStep x.o q x'.o e → x'.ok → St W w' (x'.mem W :: R) → post (.returned (.tuple #[.agg x'.cells.toArray, .int .i64 e])) w') :
    Calls Tryz.prog 33 #[.agg x.cells.toArray, .agg q.cells.toArray] w post := by
  have HO := hid h
  have HH := hid h.ro
  have HNM := hid (And.intro hh (And.intro ht (And.intro hs ha)))
  have HPS := hid hps; have HMA := hid hma; have HEA := hid hea
  have HK := hid K; clear K
  clear h hh ht hs ha hps hma hea
  by_cases k0 : q.kind = 0
  · have hk := hid k0
    have b0 : (q.kind == 0) = true := by simpa using k0
    clear k0
    go_enter Tryz.func33, Tryz.ntmps33
    go_wp2_with (first
      | (refine wpl_boxA (vs := x.cells) rfl (.tmp 0) rfl rfl st ?_; rintro B w1 s1)
      | (refine wpl_boxA (vs := q.cells) rfl (.tmp 1) rfl rfl s1 ?_; rintro A w2 s2)
      | (refine wpl_allocA rfl rfl zeroRO_z s2 ?_; rintro E w3 s3
         have lx := roLd HH.out (St.pick 2 s3)
         obtain ⟨c0, c1, c2⟩ := actC (St.pick 1 s3))
      | (go_at_call 71; refine rjoinO_c HO.out (St.pick 3 s3) ?_; rintro y e w4 hy s4
         have HS : Hid (RStep x.o q y.o e) := hid (by rcases hy with ⟨h1, rfl, h3⟩ | ⟨h1, rfl, h3⟩; (rw [h1]; exact .joinNo hk.out h3); (rw [h1]; exact .join hk.out h3))
         have HYO : Hid y.ok := hid (by rcases hy with ⟨h1, _, _⟩ | ⟨h1, _, _⟩; (rw [RO.ok, h1]; exact HH.out); (rw [RO.ok, h1]; exact ((OOK.fresh HO.out).raise q.peer).ro_len))
         clear hy)
      | (refine wpl_storeA (vs := y.cells) rfl (.tmp 4) (.tmp 14) (by rfl) aggRO (by rfl) (by rfl) (RO.len HYO.out) (RO.one _) (St.pick 1 s4) zeroRO_len ?_; rintro w9 s9)
      | fail)
    have hL := run_loadA aggRO (RO.len HYO.out) s9.rowAll
    exact bodyPost_ret (v := .tuple #[.agg y.cells.toArray, .int .i64 e]) (by simp [results, Tryz.results33, asAddr, hL]) rfl (HK.out y e _ HS.out HYO.out (St.drop (St.pick 1 (St.drop (St.pick 1 s9.drop)))))
  · have b0 : (q.kind == 0) = false := by simpa using k0
    by_cases k1 : q.kind = 1
    · have hk := hid k1
      have b1 : (q.kind == 1) = true := by simpa using k1
      clear k0 k1
      go_enter Tryz.func33, Tryz.ntmps33
      go_wp2_with (first
        | (refine wpl_boxA (vs := x.cells) rfl (.tmp 0) rfl rfl st ?_; rintro B w1 s1)
        | (refine wpl_boxA (vs := q.cells) rfl (.tmp 1) rfl rfl s1 ?_; rintro A w2 s2)
        | (refine wpl_allocA rfl rfl zeroRO_z s2 ?_; rintro E w3 s3
           have lx := roLd HH.out (St.pick 2 s3)
           obtain ⟨c0, c1, c2⟩ := actC (St.pick 1 s3))
        | (go_at_call 72; refine rleaveO_c HO.out (St.pick 3 s3) ?_; rintro y w4 hy s4; obtain ⟨e, he⟩ : ∃ e : Int, e = 0 := ⟨0, rfl⟩
           have HS : Hid (RStep x.o q y.o e) := hid (by rw [hy, he]; exact .leave hk.out)
           have HYO : Hid y.ok := hid (by rw [RO.ok, hy]; exact (leaveAll_ok _ (OOK.fresh HO.out)).1.ro_len)
           clear hy)
        | (refine wpl_storeA (vs := y.cells) rfl (.tmp 4) (.tmp 19) (by rfl) aggRO (by rfl) (by rfl) (RO.len HYO.out) (RO.one _) (St.pick 1 s4) zeroRO_len ?_; rintro w9 s9)
        | fail)
      have hL := run_loadA aggRO (RO.len HYO.out) s9.rowAll
      exact bodyPost_ret (v := .tuple #[.agg y.cells.toArray, .int .i64 e]) (by simp [results, Tryz.results33, asAddr, hL, he]) rfl (HK.out y e _ HS.out HYO.out (St.drop (St.pick 1 (St.drop (St.pick 1 s9.drop)))))
    · have b1 : (q.kind == 1) = false := by simpa using k1
      by_cases k2 : q.kind = 2
      · have hk := hid k2
        have b2 : (q.kind == 2) = true := by simpa using k2
        clear k0 k1 k2
        cases hnn : onodeB x.o q.peer with
        | false =>
          have hn := hid hnn
          clear hnn
          go_enter Tryz.func33, Tryz.ntmps33
          go_wp2_with (first
            | (refine wpl_boxA (vs := x.cells) rfl (.tmp 0) rfl rfl st ?_; rintro B w1 s1)
            | (refine wpl_boxA (vs := q.cells) rfl (.tmp 1) rfl rfl s1 ?_; rintro A w2 s2)
            | (refine wpl_allocA rfl rfl zeroRO_z s2 ?_; rintro E w3 s3
               have lx := roLd HH.out (St.pick 2 s3)
               obtain ⟨c0, c1, c2⟩ := actC (St.pick 1 s3))
            | (go_at_call 73; refine rhearO_no HO.out hn.out (St.pick 3 s3) ?_; rintro y w4 hy s4; obtain ⟨e, he⟩ : ∃ e : Int, e = 1 := ⟨1, rfl⟩
               have HS : Hid (RStep x.o q y.o e) := hid (by rw [hy, he]; exact .hearNo hk.out hn.out)
               have HYO : Hid y.ok := hid (by rw [RO.ok, hy]; exact HH.out)
               clear hy)
            | (refine wpl_storeA (vs := y.cells) rfl (.tmp 4) (.tmp 26) (by rfl) aggRO (by rfl) (by rfl) (RO.len HYO.out) (RO.one _) (St.pick 1 s4) zeroRO_len ?_; rintro w9 s9)
            | fail)
          have hL := run_loadA aggRO (RO.len HYO.out) s9.rowAll
          exact bodyPost_ret (v := .tuple #[.agg y.cells.toArray, .int .i64 e]) (by simp [results, Tryz.results33, asAddr, hL, he]) rfl (HK.out y e _ HS.out HYO.out (St.drop (St.pick 1 (St.drop (St.pick 1 s9.drop)))))
        | true =>
          have hn := hid hnn
          clear hnn
          go_enter Tryz.func33, Tryz.ntmps33
          go_wp2_with (first
            | (refine wpl_boxA (vs := x.cells) rfl (.tmp 0) rfl rfl st ?_; rintro B w1 s1)
            | (refine wpl_boxA (vs := q.cells) rfl (.tmp 1) rfl rfl s1 ?_; rintro A w2 s2)
            | (refine wpl_allocA rfl rfl zeroRO_z s2 ?_; rintro E w3 s3
               have lx := roLd HH.out (St.pick 2 s3)
               obtain ⟨c0, c1, c2⟩ := actC (St.pick 1 s3))
            | (go_at_call 73; refine rhearO_yes HO.out hn.out (St.pick 3 s3) ?_; rintro y w4 hy s4; obtain ⟨e, he⟩ : ∃ e : Int, e = 0 := ⟨0, rfl⟩
               have HS : Hid (RStep x.o q y.o e) := hid (by rw [hy, he]; exact .hear hk.out hn.out)
               have HYO : Hid y.ok := hid (by rw [RO.ok, hy]; exact ((OOK.fresh HO.out).heard q.peer).ro_len)
               clear hy)
            | (refine wpl_storeA (vs := y.cells) rfl (.tmp 4) (.tmp 26) (by rfl) aggRO (by rfl) (by rfl) (RO.len HYO.out) (RO.one _) (St.pick 1 s4) zeroRO_len ?_; rintro w9 s9)
            | fail)
          have hL := run_loadA aggRO (RO.len HYO.out) s9.rowAll
          exact bodyPost_ret (v := .tuple #[.agg y.cells.toArray, .int .i64 e]) (by simp [results, Tryz.results33, asAddr, hL, he]) rfl (HK.out y e _ HS.out HYO.out (St.drop (St.pick 1 (St.drop (St.pick 1 s9.drop)))))
      · have b2 : (q.kind == 2) = false := by simpa using k2
        by_cases k3 : q.kind = 3
        · have hk := hid k3
          have b3 : (q.kind == 3) = true := by simpa using k3
          clear k0 k1 k2 k3
          cases hnn : onodeB x.o q.peer with
          | false =>
            have hn := hid hnn
            clear hnn
            go_enter Tryz.func33, Tryz.ntmps33
            go_wp2_with (first
              | (refine wpl_boxA (vs := x.cells) rfl (.tmp 0) rfl rfl st ?_; rintro B w1 s1)
              | (refine wpl_boxA (vs := q.cells) rfl (.tmp 1) rfl rfl s1 ?_; rintro A w2 s2)
              | (refine wpl_allocA rfl rfl zeroRO_z s2 ?_; rintro E w3 s3
                 have lx := roLd HH.out (St.pick 2 s3)
                 obtain ⟨c0, c1, c2⟩ := actC (St.pick 1 s3))
              | (go_at_call 74; refine rtakeO_no HO.out hn.out HPS.out HMA.out HEA.out (St.pick 3 s3) ?_; rintro y e w4 hy he s4
                 have HS : Hid (RStep x.o q y.o e) := hid (by rw [hy, he]; exact .takeNo hk.out hn.out)
                 have HYO : Hid y.ok := hid (by rw [RO.ok, hy]; exact HH.out)
                 clear hy)
              | (refine wpl_storeA (vs := y.cells) rfl (.tmp 4) (.tmp 36) (by rfl) aggRO (by rfl) (by rfl) (RO.len HYO.out) (RO.one _) (St.pick 1 s4) zeroRO_len ?_; rintro w9 s9)
              | fail)
            have hL := run_loadA aggRO (RO.len HYO.out) s9.rowAll
            exact bodyPost_ret (v := .tuple #[.agg y.cells.toArray, .int .i64 e]) (by simp [results, Tryz.results33, asAddr, hL, he]) rfl (HK.out y e _ HS.out HYO.out (St.drop (St.pick 1 (St.drop (St.pick 1 s9.drop)))))
          | true =>
            have hn := hid hnn
            clear hnn
            cases hff : rfitsB x.o q.m q.ks q.es with
            | false =>
              have hf := hid hff
              clear hff
              go_enter Tryz.func33, Tryz.ntmps33
              go_wp2_with (first
                | (refine wpl_boxA (vs := x.cells) rfl (.tmp 0) rfl rfl st ?_; rintro B w1 s1)
                | (refine wpl_boxA (vs := q.cells) rfl (.tmp 1) rfl rfl s1 ?_; rintro A w2 s2)
                | (refine wpl_allocA rfl rfl zeroRO_z s2 ?_; rintro E w3 s3
                   have lx := roLd HH.out (St.pick 2 s3)
                   obtain ⟨c0, c1, c2⟩ := actC (St.pick 1 s3))
                | (go_at_call 74; refine rtakeO_bad HO.out hn.out hf.out HPS.out HMA.out HEA.out (St.pick 3 s3) ?_; rintro y e w4 hy he s4
                   have HS : Hid (RStep x.o q y.o e) := hid (by rw [hy, he]; exact .takeBad hk.out hn.out hf.out)
                   have HYO : Hid y.ok := hid (by rw [RO.ok, hy]; exact HH.out)
                   clear hy)
                | (refine wpl_storeA (vs := y.cells) rfl (.tmp 4) (.tmp 36) (by rfl) aggRO (by rfl) (by rfl) (RO.len HYO.out) (RO.one _) (St.pick 1 s4) zeroRO_len ?_; rintro w9 s9)
                | fail)
              have hL := run_loadA aggRO (RO.len HYO.out) s9.rowAll
              exact bodyPost_ret (v := .tuple #[.agg y.cells.toArray, .int .i64 e]) (by simp [results, Tryz.results33, asAddr, hL, he]) rfl (HK.out y e _ HS.out HYO.out (St.drop (St.pick 1 (St.drop (St.pick 1 s9.drop)))))
            | true =>
              have hf := hid hff
              obtain ⟨k, hkk0⟩ := rfits_facts HO.out hff
              have hkk := hid hkk0
              clear hff hkk0
              go_enter Tryz.func33, Tryz.ntmps33
              go_wp2_with (first
                | (refine wpl_boxA (vs := x.cells) rfl (.tmp 0) rfl rfl st ?_; rintro B w1 s1)
                | (refine wpl_boxA (vs := q.cells) rfl (.tmp 1) rfl rfl s1 ?_; rintro A w2 s2)
                | (refine wpl_allocA rfl rfl zeroRO_z s2 ?_; rintro E w3 s3
                   have lx := roLd HH.out (St.pick 2 s3)
                   obtain ⟨c0, c1, c2⟩ := actC (St.pick 1 s3))
                | (go_at_call 74; refine rtakeO_yes HO.out hn.out hf.out hkk.out.1 hkk.out.2.1 hkk.out.2.2.1 hkk.out.2.2.2.1 hkk.out.2.2.2.2.1 hkk.out.2.2.2.2.2 HPS.out HMA.out HEA.out (St.pick 3 s3) ?_; rintro y e pa pn pc w4 hy he s4
                   have HS : Hid (RStep x.o q y.o e) := hid (by rw [hy, he]; exact .take hk.out hn.out hf.out k hkk.out.1 hkk.out.2.1 hkk.out.2.2.1 pa pn pc)
                   have HYO : Hid y.ok := hid (by rw [RO.ok, hy]; exact takeO_len2 (OOK.fresh HO.out) _ _ hkk.out.1 hkk.out.2.1 _ _ _)
                   clear hy)
                | (refine wpl_storeA (vs := y.cells) rfl (.tmp 4) (.tmp 36) (by rfl) aggRO (by rfl) (by rfl) (RO.len HYO.out) (RO.one _) (St.pick 1 s4) zeroRO_len ?_; rintro w9 s9)
                | fail)
              have hL := run_loadA aggRO (RO.len HYO.out) s9.rowAll
              exact bodyPost_ret (v := .tuple #[.agg y.cells.toArray, .int .i64 e]) (by simp [results, Tryz.results33, asAddr, hL, he]) rfl (HK.out y e _ HS.out HYO.out (St.drop (St.pick 1 (St.drop (St.pick 1 s9.drop)))))
        · have b3 : (q.kind == 3) = false := by simpa using k3
          have hk := hid (And.intro k0 (And.intro k1 (And.intro k2 k3)))
          clear k0 k1 k2 k3
          go_enter Tryz.func33, Tryz.ntmps33
          go_wp2_with (first
            | (refine wpl_boxA (vs := x.cells) rfl (.tmp 0) rfl rfl st ?_; rintro B w1 s1)
            | (refine wpl_boxA (vs := q.cells) rfl (.tmp 1) rfl rfl s1 ?_; rintro A w2 s2)
            | (refine wpl_allocA rfl rfl zeroRO_z s2 ?_; rintro E w3 s3
               have lx := roLd HH.out (St.pick 2 s3)
               obtain ⟨c0, c1, c2⟩ := actC (St.pick 1 s3))
            | (go_at_call 75; refine rtickO_c HO.out HNM.out.1 HNM.out.2.1 HNM.out.2.2.1 HNM.out.2.2.2 (St.pick 3 s3) ?_; rintro y pa pn pc w4 hy s4; obtain ⟨e, he⟩ : ∃ e : Int, e = 0 := ⟨0, rfl⟩
               have HS : Hid (RStep x.o q y.o e) := hid (by rw [hy, he]; exact .tick hk.out pa pn pc)
               have HYO : Hid y.ok := hid (by rw [RO.ok, hy]; exact tickR_len2 (OOK.fresh HO.out) _ _ _)
               clear hy)
            | (refine wpl_storeA (vs := y.cells) rfl (.tmp 4) (.tmp 39) (by rfl) aggRO (by rfl) (by rfl) (RO.len HYO.out) (RO.one _) (St.pick 1 s4) zeroRO_len ?_; rintro w9 s9)
            | fail)
          have hL := run_loadA aggRO (RO.len HYO.out) s9.rowAll
          exact bodyPost_ret (v := .tuple #[.agg y.cells.toArray, .int .i64 e]) (by simp [results, Tryz.results33, asAddr, hL, he]) rfl (HK.out y e _ HS.out HYO.out (St.drop (St.pick 1 (St.drop (St.pick 1 s9.drop)))))
end

end Go.Proofs.YtbpdchaeakihkaaGreat
