/- The overlay: Take of the kinds 3, 4, 5, 6, 8 and 9; and its refusals. Printed by mkTakeG.py. -/
import Derived.Test.YtbpdchaeakihkaaGreatTakes
namespace Go.Proofs.YtbpdchaeakihkaaGreat
open Go.RowKit Go.Qd

theorem heardO_lens (O : OV) (p : Int) : (heardO O p).L.length = O.L.length ∧ (heardO O p).C.length = O.C.length := by rw [(heardO_LC O p).1, (heardO_LC O p).2.1]; exact ⟨rfl, rfl⟩

section
variable {W w : World} {R : List HP} {post : Ending → World → Prop} {b d : Nat} {O : OV} {m : MsgV} {p : Int}
attribute [local go_sem ↓] execOp_load58

set_option maxRecDepth 100000 in
theorem take_no1 (st : St W w (OvA b d O :: R)) (h : OOK O) (hn : onodeB O p = false) (K : ∀ w', St W w' (OvA b d O :: R) → post (.returned (.tuple #[.slice none 0 0, .slice none 0 0, .int .i64 1])) w') :
    Calls Tryz.prog 22 #[.pointer (some ⟨b, 0, none⟩), .int .i64 p, .agg m.cells.toArray] w post := by
  have HK := hid K; clear K
  have HN := hid hn
  have hcl := h.cl
  clear hn h
  go_enter Tryz.func22, Tryz.ntmps22
  go_wp2_with (first
    | (refine wpl_boxA (vs := m.cells) rfl (.tmp 2) rfl rfl st ?_; rintro T w1 s1)
    | (go_at_call 42; refine onode_c (St.pick 1 s1) hcl ?_; rw [HN.out]))
  go_ret3
  exact HK.out _ s1.drop

/-- A message that doesn't fit, whatever shows that. -/
theorem take_no4 (st : St W w (OvA b d O :: R)) (h : OOK O) (hn : onodeB O p = true)
    (hf : ∀ (w1 : World) (p1 : Ending → World → Prop) (X : HP), St W w1 (OvA b d O :: X :: R) → (∀ w2, St W w2 (OvA b d O :: X :: R) → p1 (.returned (.bool false)) w2) → Calls Tryz.prog 51 #[.pointer (some ⟨b, 0, none⟩), .agg m.cells.toArray] w1 p1)
    (K : ∀ w', St W w' (OvA b d O :: R) → post (.returned (.tuple #[.slice none 0 0, .slice none 0 0, .int .i64 4])) w') :
    Calls Tryz.prog 22 #[.pointer (some ⟨b, 0, none⟩), .int .i64 p, .agg m.cells.toArray] w post := by
  have HK := hid K; clear K
  have HN := hid hn
  have HF := hid hf
  have hcl := h.cl
  clear hn h hf
  go_enter Tryz.func22, Tryz.ntmps22
  go_wp2_with (first
    | (refine wpl_boxA (vs := m.cells) rfl (.tmp 2) rfl rfl st ?_; rintro T w1 s1; have f1 := lg58 s1)
    | (go_at_call 42; refine onode_c (St.pick 1 s1) hcl ?_; rw [HN.out])
    | (go_at_call 51; refine HF.out _ _ _ (St.pick 1 s1) ?_; rintro w2 s2))
  go_ret3
  exact HK.out _ (St.drop (St.pick 1 s2))

set_option maxRecDepth 100000 in
set_option maxHeartbeats 8000000 in
theorem take3_c (st : St W w (OvA b d O :: R)) (h : OOK O) (hn : onodeB O p = true) (hk : m.kind = 3) (hp : Rds W R 1 m.pa m.pn m.pc (ivs m.ps)) (hpn : m.pn ≤ 4096) (hf : fitsB O m 3 = true)
    (hL : O.L.length ≤ 100) (hC : O.C.length ≤ 100)
    (K : ∀ la ln lc ca cn cc w', St W w' (OvA b d (freshO (neighborO (heardO O p) p m.high)) :: OwnS 13 la ln lc (letC (neighborO (heardO O p) p m.high).L) :: OwnS 2 ca cn cc (chC (neighborO (heardO O p) p m.high).C) :: sepL ((neighborO (heardO O p) p m.high).L.map LetV.own) :: R) →
      post (.returned (.tuple #[.slice la ln lc, .slice ca cn cc, .int .i64 0])) w') : Calls Tryz.prog 22 #[.pointer (some ⟨b, 0, none⟩), .int .i64 p, .agg m.cells.toArray] w post := by
  have HK := hid K; clear K
  have HN := hid hn
  have hcl := h.cl
  have HO1 := hid (h.heard p)
  have HF := hid hf
  have HKD := hid hk
  have HPR := hid hp
  have HPN := hid hpn
  have hl1 : (heardO O p).L.length ≤ 1000 := by rw [(heardO_lens O p).1]; omega
  have hc1 : (heardO O p).C.length ≤ 1000 := by rw [(heardO_lens O p).2]; omega
  have HO := hid h
  clear hn hf hk hp hpn h
  go_enter Tryz.func22, Tryz.ntmps22
  go_wp2_with (first
    | (refine wpl_boxA (vs := m.cells) rfl (.tmp 2) rfl rfl st ?_; rintro T w1 s1; have f1 := lg58 s1)
    | (go_at_call 42; refine onode_c (St.pick 1 s1) hcl ?_; rw [HN.out])
    | (go_at_call 51; refine fits_c (k := 3) (by decide) (by decide) HKD.out ?_ HPN.out (St.pick 1 s1) hcl ?_
       · exact HPR.out.cons.cons
       rintro w2 s2; rw [HF.out])
    | (go_at_call 17; refine heard_c s2 HO.out HN.out ?_; rintro w3 s3; obtain ⟨g0, _, _, g3, g4, _⟩ := boxM (St.pick 1 s3); rw [HKD.out] at g0)
    | (go_at_call 54; refine neighbor_c s3 HO1.out hl1 hc1 ?_; rintro w4 s4)
    | (go_at_call 45; refine told_c s4 ?_; rintro la ln lc ca cn cc w9 s9))
  go_ret3
  exact HK.out _ _ _ _ _ _ _ (St.drop (St.pick 4 s9) |>.perm [])

set_option maxRecDepth 100000 in
set_option maxHeartbeats 8000000 in
theorem take4_c (st : St W w (OvA b d O :: R)) (h : OOK O) (hn : onodeB O p = true) (hk : m.kind = 4) (hp : Rds W R 1 m.pa m.pn m.pc (ivs m.ps)) (hpn : m.pn ≤ 4096) (hf : fitsB O m 4 = true)
    (hL : O.L.length ≤ 100) (hC : O.C.length ≤ 100)
    (K : ∀ la ln lc ca cn cc w', St W w' (OvA b d (freshO (answerO (heardO O p) p true)) :: OwnS 13 la ln lc (letC (answerO (heardO O p) p true).L) :: OwnS 2 ca cn cc (chC (answerO (heardO O p) p true).C) :: sepL ((answerO (heardO O p) p true).L.map LetV.own) :: R) →
      post (.returned (.tuple #[.slice la ln lc, .slice ca cn cc, .int .i64 0])) w') : Calls Tryz.prog 22 #[.pointer (some ⟨b, 0, none⟩), .int .i64 p, .agg m.cells.toArray] w post := by
  have HK := hid K; clear K
  have HN := hid hn
  have hcl := h.cl
  have HO1 := hid (h.heard p)
  have HF := hid hf
  have HKD := hid hk
  have HPR := hid hp
  have HPN := hid hpn
  have hl1 : (heardO O p).L.length ≤ 1000 := by rw [(heardO_lens O p).1]; omega
  have hc1 : (heardO O p).C.length ≤ 1000 := by rw [(heardO_lens O p).2]; omega
  have HO := hid h
  clear hn hf hk hp hpn h
  go_enter Tryz.func22, Tryz.ntmps22
  go_wp2_with (first
    | (refine wpl_boxA (vs := m.cells) rfl (.tmp 2) rfl rfl st ?_; rintro T w1 s1; have f1 := lg58 s1)
    | (go_at_call 42; refine onode_c (St.pick 1 s1) hcl ?_; rw [HN.out])
    | (go_at_call 51; refine fits_c (k := 4) (by decide) (by decide) HKD.out ?_ HPN.out (St.pick 1 s1) hcl ?_
       · exact HPR.out.cons.cons
       rintro w2 s2; rw [HF.out])
    | (go_at_call 17; refine heard_c s2 HO.out HN.out ?_; rintro w3 s3; obtain ⟨g0, _, _, g3, g4, _⟩ := boxM (St.pick 1 s3); rw [HKD.out] at g0)
    | (go_at_call 55; refine answer_c s3 HO1.out (by omega) (by omega) ?_; rintro w4 s4)
    | (go_at_call 45; refine told_c s4 ?_; rintro la ln lc ca cn cc w9 s9))
  go_ret3
  exact HK.out _ _ _ _ _ _ _ (St.drop (St.pick 4 s9) |>.perm [])

set_option maxRecDepth 100000 in
set_option maxHeartbeats 8000000 in
theorem take5_c (st : St W w (OvA b d O :: R)) (h : OOK O) (hn : onodeB O p = true) (hk : m.kind = 5) (hp : Rds W R 1 m.pa m.pn m.pc (ivs m.ps)) (hpn : m.pn ≤ 4096) (hf : fitsB O m 5 = true)
    (hL : O.L.length ≤ 100) (hC : O.C.length ≤ 100)
    (K : ∀ la ln lc ca cn cc w', St W w' (OvA b d (freshO (answerO (heardO O p) p false)) :: OwnS 13 la ln lc (letC (answerO (heardO O p) p false).L) :: OwnS 2 ca cn cc (chC (answerO (heardO O p) p false).C) :: sepL ((answerO (heardO O p) p false).L.map LetV.own) :: R) →
      post (.returned (.tuple #[.slice la ln lc, .slice ca cn cc, .int .i64 0])) w') : Calls Tryz.prog 22 #[.pointer (some ⟨b, 0, none⟩), .int .i64 p, .agg m.cells.toArray] w post := by
  have HK := hid K; clear K
  have HN := hid hn
  have hcl := h.cl
  have HO1 := hid (h.heard p)
  have HF := hid hf
  have HKD := hid hk
  have HPR := hid hp
  have HPN := hid hpn
  have hl1 : (heardO O p).L.length ≤ 1000 := by rw [(heardO_lens O p).1]; omega
  have hc1 : (heardO O p).C.length ≤ 1000 := by rw [(heardO_lens O p).2]; omega
  have HO := hid h
  clear hn hf hk hp hpn h
  go_enter Tryz.func22, Tryz.ntmps22
  go_wp2_with (first
    | (refine wpl_boxA (vs := m.cells) rfl (.tmp 2) rfl rfl st ?_; rintro T w1 s1; have f1 := lg58 s1)
    | (go_at_call 42; refine onode_c (St.pick 1 s1) hcl ?_; rw [HN.out])
    | (go_at_call 51; refine fits_c (k := 5) (by decide) (by decide) HKD.out ?_ HPN.out (St.pick 1 s1) hcl ?_
       · exact HPR.out.cons.cons
       rintro w2 s2; rw [HF.out])
    | (go_at_call 17; refine heard_c s2 HO.out HN.out ?_; rintro w3 s3; obtain ⟨g0, _, _, g3, g4, _⟩ := boxM (St.pick 1 s3); rw [HKD.out] at g0)
    | (go_at_call 55; refine answer_c s3 HO1.out (by omega) (by omega) ?_; rintro w4 s4)
    | (go_at_call 45; refine told_c s4 ?_; rintro la ln lc ca cn cc w9 s9))
  go_ret3
  exact HK.out _ _ _ _ _ _ _ (St.drop (St.pick 4 s9) |>.perm [])

set_option maxRecDepth 100000 in
set_option maxHeartbeats 8000000 in
theorem take6_c (st : St W w (OvA b d O :: R)) (h : OOK O) (hn : onodeB O p = true) (hk : m.kind = 6) (hp : Rds W R 1 m.pa m.pn m.pc (ivs m.ps)) (hpn : m.pn ≤ 4096) (hf : fitsB O m 6 = true)
    (hL : O.L.length ≤ 100) (hC : O.C.length ≤ 100)
    (K : ∀ la ln lc ca cn cc w', St W w' (OvA b d (freshO (lowerO (heardO O p) p)) :: OwnS 13 la ln lc (letC (lowerO (heardO O p) p).L) :: OwnS 2 ca cn cc (chC (lowerO (heardO O p) p).C) :: sepL ((lowerO (heardO O p) p).L.map LetV.own) :: R) →
      post (.returned (.tuple #[.slice la ln lc, .slice ca cn cc, .int .i64 0])) w') : Calls Tryz.prog 22 #[.pointer (some ⟨b, 0, none⟩), .int .i64 p, .agg m.cells.toArray] w post := by
  have HK := hid K; clear K
  have HN := hid hn
  have hcl := h.cl
  have HO1 := hid (h.heard p)
  have HF := hid hf
  have HKD := hid hk
  have HPR := hid hp
  have HPN := hid hpn
  have hl1 : (heardO O p).L.length ≤ 1000 := by rw [(heardO_lens O p).1]; omega
  have hc1 : (heardO O p).C.length ≤ 1000 := by rw [(heardO_lens O p).2]; omega
  have HO := hid h
  clear hn hf hk hp hpn h
  go_enter Tryz.func22, Tryz.ntmps22
  go_wp2_with (first
    | (refine wpl_boxA (vs := m.cells) rfl (.tmp 2) rfl rfl st ?_; rintro T w1 s1; have f1 := lg58 s1)
    | (go_at_call 42; refine onode_c (St.pick 1 s1) hcl ?_; rw [HN.out])
    | (go_at_call 51; refine fits_c (k := 6) (by decide) (by decide) HKD.out ?_ HPN.out (St.pick 1 s1) hcl ?_
       · exact HPR.out.cons.cons
       rintro w2 s2; rw [HF.out])
    | (go_at_call 17; refine heard_c s2 HO.out HN.out ?_; rintro w3 s3; obtain ⟨g0, _, _, g3, g4, _⟩ := boxM (St.pick 1 s3); rw [HKD.out] at g0)
    | (go_at_call 48; refine olower_c s3 HO1.out (by omega) ?_; rintro w4 s4)
    | (go_at_call 45; refine told_c s4 ?_; rintro la ln lc ca cn cc w9 s9))
  go_ret3
  exact HK.out _ _ _ _ _ _ _ (St.drop (St.pick 4 s9) |>.perm [])

set_option maxRecDepth 100000 in
set_option maxHeartbeats 8000000 in
theorem take8_c (st : St W w (OvA b d O :: R)) (h : OOK O) (hn : onodeB O p = true) (hk : m.kind = 8) (hp : Rds W R 1 m.pa m.pn m.pc (ivs m.ps)) (hpn : m.pn ≤ 4096) (hf : fitsB O m 8 = true)
    (hL : O.L.length ≤ 100) (hC : O.C.length ≤ 100)
    (K : ∀ la ln lc ca cn cc w', St W w' (OvA b d (freshO (learnAllO (heardO O p) m.ps)) :: OwnS 13 la ln lc (letC (learnAllO (heardO O p) m.ps).L) :: OwnS 2 ca cn cc (chC (learnAllO (heardO O p) m.ps).C) :: sepL ((learnAllO (heardO O p) m.ps).L.map LetV.own) :: R) →
      post (.returned (.tuple #[.slice la ln lc, .slice ca cn cc, .int .i64 0])) w') : Calls Tryz.prog 22 #[.pointer (some ⟨b, 0, none⟩), .int .i64 p, .agg m.cells.toArray] w post := by
  have HK := hid K; clear K
  have HN := hid hn
  have hcl := h.cl
  have HO1 := hid (h.heard p)
  have HF := hid hf
  have HKD := hid hk
  have HPR := hid hp
  have HPN := hid hpn
  have hl1 : (heardO O p).L.length ≤ 1000 := by rw [(heardO_lens O p).1]; omega
  have hc1 : (heardO O p).C.length ≤ 1000 := by rw [(heardO_lens O p).2]; omega
  have HO := hid h
  clear hn hf hk hp hpn h
  go_enter Tryz.func22, Tryz.ntmps22
  go_wp2_with (first
    | (refine wpl_boxA (vs := m.cells) rfl (.tmp 2) rfl rfl st ?_; rintro T w1 s1; have f1 := lg58 s1)
    | (go_at_call 42; refine onode_c (St.pick 1 s1) hcl ?_; rw [HN.out])
    | (go_at_call 51; refine fits_c (k := 8) (by decide) (by decide) HKD.out ?_ HPN.out (St.pick 1 s1) hcl ?_
       · exact HPR.out.cons.cons
       rintro w2 s2; rw [HF.out])
    | (go_at_call 17; refine heard_c s2 HO.out HN.out ?_; rintro w3 s3; obtain ⟨g0, _, _, g3, g4, _⟩ := boxM (St.pick 1 s3); rw [HKD.out] at g0)
    | (go_at_call 57; refine learnAll_c s3 HO1.out HPR.out.cons HPN.out ?_; rintro w4 s4)
    | (go_at_call 45; refine told_c s4 ?_; rintro la ln lc ca cn cc w9 s9))
  go_ret3
  exact HK.out _ _ _ _ _ _ _ (St.drop (St.pick 4 s9) |>.perm [])

set_option maxRecDepth 100000 in
set_option maxHeartbeats 8000000 in
theorem take9_c (st : St W w (OvA b d O :: R)) (h : OOK O) (hn : onodeB O p = true) (hk : m.kind = 9) (hp : Rds W R 1 m.pa m.pn m.pc (ivs m.ps)) (hpn : m.pn ≤ 4096) (hf : fitsB O m 9 = true)
    (hL : O.L.length ≤ 100) (hC : O.C.length ≤ 100)
    (K : ∀ la ln lc ca cn cc w', St W w' (OvA b d (freshO (heardO O p)) :: OwnS 13 la ln lc (letC (heardO O p).L) :: OwnS 2 ca cn cc (chC (heardO O p).C) :: sepL ((heardO O p).L.map LetV.own) :: R) →
      post (.returned (.tuple #[.slice la ln lc, .slice ca cn cc, .int .i64 0])) w') : Calls Tryz.prog 22 #[.pointer (some ⟨b, 0, none⟩), .int .i64 p, .agg m.cells.toArray] w post := by
  have HK := hid K; clear K
  have HN := hid hn
  have hcl := h.cl
  have HO1 := hid (h.heard p)
  have HF := hid hf
  have HKD := hid hk
  have HPR := hid hp
  have HPN := hid hpn
  have hl1 : (heardO O p).L.length ≤ 1000 := by rw [(heardO_lens O p).1]; omega
  have hc1 : (heardO O p).C.length ≤ 1000 := by rw [(heardO_lens O p).2]; omega
  have HO := hid h
  clear hn hf hk hp hpn h
  go_enter Tryz.func22, Tryz.ntmps22
  go_wp2_with (first
    | (refine wpl_boxA (vs := m.cells) rfl (.tmp 2) rfl rfl st ?_; rintro T w1 s1; have f1 := lg58 s1)
    | (go_at_call 42; refine onode_c (St.pick 1 s1) hcl ?_; rw [HN.out])
    | (go_at_call 51; refine fits_c (k := 9) (by decide) (by decide) HKD.out ?_ HPN.out (St.pick 1 s1) hcl ?_
       · exact HPR.out.cons.cons
       rintro w2 s2; rw [HF.out])
    | (go_at_call 17; refine heard_c s2 HO.out HN.out ?_; rintro w3 s3; obtain ⟨g0, _, _, g3, g4, _⟩ := boxM (St.pick 1 s3); rw [HKD.out] at g0)
    | (go_at_call 45; refine told_c s3 ?_; rintro la ln lc ca cn cc w9 s9))
  go_ret3
  exact HK.out _ _ _ _ _ _ _ (St.drop (St.pick 4 s9) |>.perm [])

end

end Go.Proofs.YtbpdchaeakihkaaGreat
