/- The overlay: forward, shuffle; Take of the kinds 2 and 7. Printed by mkTakeL.py. -/
import Derived.Test.YtbpdchaeakihkaaGreatTakeK
import Derived.Test.YtbpdchaeakihkaaGreatTakeG
namespace Go.Proofs.YtbpdchaeakihkaaGreat
open Go.RowKit Go.Qd

def shuffleO (O : OV) (p : Int) (m : MsgV) (pa : Option Addr) (pn pc : Nat) : OV :=
  if m.peer = O.V.self then O else if 0 < m.hops ∧ fwdN O p m ≠ [] then passO O m (fwdN O p m) pa m.pn pc else swapO O m pa pn pc

section
variable {W w : World} {R : List HP} {post : Ending → World → Prop} {b d : Nat} {O : OV} {m : MsgV} {p : Int}

theorem forward_c (st : St W w (OvA b d O :: R)) (h : OOK O) (hp : Rds W R 1 m.pa m.pn m.pc (ivs m.ps)) (hpn : m.pn ≤ 4096) (hho : 0 ≤ m.hops ∧ m.hops ≤ 1000) (hL : O.L.length ≤ 1000) (hC : O.C.length ≤ 1000)
    (K : ∀ pa pc w', St W w' (OvA b d (forwardO O p m pa pc) :: R) → post (.returned (.tuple #[])) w') :
    Calls Tryz.prog 53 #[.pointer (some ⟨b, 0, none⟩), .int .i64 p, .agg m.cells.toArray] w post := by
  unfold forwardO at K
  by_cases hs : m.peer = O.V.self
  · simp only [hs, if_true] at K
    exact forward_self st h hs (K none 0)
  · simp only [hs, if_false] at K
    by_cases he : m.hops = 0 ∨ fwdN O p m = []
    · simp only [he, if_true] at K
      by_cases hm : memB O.V.a m.peer = true
      · simp only [hm, if_true] at K
        exact forward_end1 st h hs he hm (K none 0)
      · simp only [hm, Bool.false_eq_true, if_false] at K
        exact forward_end2 st h hs he (by simpa using hm) hL hC (K none 0)
    · simp only [he, if_false] at K
      exact forward_on st h hs (fun g => he (.inl g)) (fun g => he (.inr g)) hp hpn hho (by omega) K

theorem shuffle_c (st : St W w (OvA b d O :: R)) (h : OOK O) (hp : Rds W R 1 m.pa m.pn m.pc (ivs m.ps)) (hpn : m.pn ≤ 1000) (hho : 0 ≤ m.hops ∧ m.hops ≤ 1000) (hL : O.L.length ≤ 1000)
    (K : ∀ pa pn pc w', St W w' (OvA b d (shuffleO O p m pa pn pc) :: R) → post (.returned (.tuple #[])) w') :
    Calls Tryz.prog 56 #[.pointer (some ⟨b, 0, none⟩), .int .i64 p, .agg m.cells.toArray] w post := by
  unfold shuffleO at K
  by_cases hs : m.peer = O.V.self
  · simp only [hs, if_true] at K
    exact shuffle_self st hs (K none 0 0)
  · simp only [hs, if_false] at K
    by_cases he : 0 < m.hops ∧ fwdN O p m ≠ []
    · simp only [if_pos he] at K
      exact shuffle_on st h hs he.1 he.2 hp (by omega) hho (by omega) (fun pa => K pa 0)
    · simp only [if_neg he] at K
      exact shuffle_swap st h hs (by
        by_cases h0 : 0 < m.hops
        · exact .inr (Classical.byContradiction fun g => he ⟨h0, g⟩)
        · exact .inl h0) hp hpn (by omega) K

theorem fits_nums {k : Nat} (h : fitsB O m k = true) : (0 ≤ m.hops ∧ m.hops ≤ 8) ∧ m.pn ≤ 8 ∧ thereB O m.peer = true ∧ ∀ x ∈ m.ps, thereB O x = true := by
  unfold fitsB goodB allB at h
  simp only [Bool.and_eq_true, decide_eq_true_eq, Bool.not_eq_true', List.any_eq_false] at h
  refine ⟨⟨h.1.2.2.1, h.1.2.2.2.1⟩, h.1.2.2.2.2.1.1, h.2.1, fun x hx => by simpa using h.2.2 x hx⟩

attribute [local go_sem ↓] execOp_load58

set_option maxRecDepth 100000 in
set_option maxHeartbeats 8000000 in
theorem take2_c (st : St W w (OvA b d O :: R)) (h : OOK O) (hn : onodeB O p = true) (hk : m.kind = 2) (hp : Rds W R 1 m.pa m.pn m.pc (ivs m.ps)) (hpn : m.pn ≤ 4096) (hf : fitsB O m 2 = true)
    (hL : O.L.length ≤ 100) (hC : O.C.length ≤ 100)
    (K : ∀ pa pc la ln lc ca cn cc w', St W w' (OvA b d (freshO (forwardO (heardO O p) p m pa pc)) :: OwnS 13 la ln lc (letC (forwardO (heardO O p) p m pa pc).L) :: OwnS 2 ca cn cc (chC (forwardO (heardO O p) p m pa pc).C) :: sepL ((forwardO (heardO O p) p m pa pc).L.map LetV.own) :: R) →
      post (.returned (.tuple #[.slice la ln lc, .slice ca cn cc, .int .i64 0])) w') : Calls Tryz.prog 22 #[.pointer (some ⟨b, 0, none⟩), .int .i64 p, .agg m.cells.toArray] w post := by
  have HK := hid K; clear K
  have HN := hid hn
  have hcl := h.cl
  have HO1 := hid (h.heard p)
  have HF := hid hf
  have HKD := hid hk
  have HPR := hid hp
  have HPN := hid hpn
  have hl1 : (heardO O p).L.length ≤ 1000 := by rw [(heardO_lens O p).1]; omega
  have hc1 : (heardO O p).C.length ≤ 1000 := by rw [(heardO_lens O p).2]; omega
  have hh8 := (fits_nums hf).1
  have hp8 := (fits_nums hf).2.1
  have HH := hid (show 0 ≤ m.hops ∧ m.hops ≤ 1000 from ⟨hh8.1, by omega⟩)
  have HP8 := hid (show m.pn ≤ 1000 by omega)
  have HO := hid h
  clear hn hf hk hp hpn h
  go_enter Tryz.func22, Tryz.ntmps22
  go_wp2_with (first
    | (refine wpl_boxA (vs := m.cells) rfl (.tmp 2) rfl rfl st ?_; rintro T w1 s1; have f1 := lg58 s1)
    | (go_at_call 42; refine onode_c (St.pick 1 s1) hcl ?_; rw [HN.out])
    | (go_at_call 51; refine fits_c (k := 2) (by decide) (by decide) HKD.out ?_ HPN.out (St.pick 1 s1) hcl ?_
       · exact HPR.out.cons.cons
       rintro w2 s2; rw [HF.out])
    | (go_at_call 17; refine heard_c s2 HO.out HN.out ?_; rintro w3 s3; obtain ⟨g0, _, _, g3, g4, _⟩ := boxM (St.pick 1 s3); rw [HKD.out] at g0; have f3 := lg58 (St.pick 1 s3))
    | (go_at_call 53; refine forward_c s3 HO1.out HPR.out.cons HPN.out HH.out hl1 hc1 ?_; rintro pa pc w4 s4)
    | (go_at_call 45; refine told_c s4 ?_; rintro la ln lc ca cn cc w9 s9))
  go_ret3
  exact HK.out _ _ _ _ _ _ _ _ _ (St.drop (St.pick 4 s9) |>.perm [])

set_option maxRecDepth 100000 in
set_option maxHeartbeats 8000000 in
theorem take7_c (st : St W w (OvA b d O :: R)) (h : OOK O) (hn : onodeB O p = true) (hk : m.kind = 7) (hp : Rds W R 1 m.pa m.pn m.pc (ivs m.ps)) (hpn : m.pn ≤ 4096) (hf : fitsB O m 7 = true)
    (hL : O.L.length ≤ 100) (hC : O.C.length ≤ 100)
    (K : ∀ pa pn pc la ln lc ca cn cc w', St W w' (OvA b d (freshO (shuffleO (heardO O p) p m pa pn pc)) :: OwnS 13 la ln lc (letC (shuffleO (heardO O p) p m pa pn pc).L) :: OwnS 2 ca cn cc (chC (shuffleO (heardO O p) p m pa pn pc).C) :: sepL ((shuffleO (heardO O p) p m pa pn pc).L.map LetV.own) :: R) →
      post (.returned (.tuple #[.slice la ln lc, .slice ca cn cc, .int .i64 0])) w') : Calls Tryz.prog 22 #[.pointer (some ⟨b, 0, none⟩), .int .i64 p, .agg m.cells.toArray] w post := by
  have HK := hid K; clear K
  have HN := hid hn
  have hcl := h.cl
  have HO1 := hid (h.heard p)
  have HF := hid hf
  have HKD := hid hk
  have HPR := hid hp
  have HPN := hid hpn
  have hl1 : (heardO O p).L.length ≤ 1000 := by rw [(heardO_lens O p).1]; omega
  have hc1 : (heardO O p).C.length ≤ 1000 := by rw [(heardO_lens O p).2]; omega
  have hh8 := (fits_nums hf).1
  have hp8 := (fits_nums hf).2.1
  have HH := hid (show 0 ≤ m.hops ∧ m.hops ≤ 1000 from ⟨hh8.1, by omega⟩)
  have HP8 := hid (show m.pn ≤ 1000 by omega)
  have HO := hid h
  clear hn hf hk hp hpn h
  go_enter Tryz.func22, Tryz.ntmps22
  go_wp2_with (first
    | (refine wpl_boxA (vs := m.cells) rfl (.tmp 2) rfl rfl st ?_; rintro T w1 s1; have f1 := lg58 s1)
    | (go_at_call 42; refine onode_c (St.pick 1 s1) hcl ?_; rw [HN.out])
    | (go_at_call 51; refine fits_c (k := 7) (by decide) (by decide) HKD.out ?_ HPN.out (St.pick 1 s1) hcl ?_
       · exact HPR.out.cons.cons
       rintro w2 s2; rw [HF.out])
    | (go_at_call 17; refine heard_c s2 HO.out HN.out ?_; rintro w3 s3; obtain ⟨g0, _, _, g3, g4, _⟩ := boxM (St.pick 1 s3); rw [HKD.out] at g0; have f3 := lg58 (St.pick 1 s3))
    | (go_at_call 56; refine shuffle_c s3 HO1.out HPR.out.cons HP8.out HH.out hl1 ?_; rintro pa pn pc w4 s4)
    | (go_at_call 45; refine told_c s4 ?_; rintro la ln lc ca cn cc w9 s9))
  go_ret3
  exact HK.out _ _ _ _ _ _ _ _ _ _ (St.drop (St.pick 4 s9) |>.perm [])

end

end Go.Proofs.YtbpdchaeakihkaaGreat
