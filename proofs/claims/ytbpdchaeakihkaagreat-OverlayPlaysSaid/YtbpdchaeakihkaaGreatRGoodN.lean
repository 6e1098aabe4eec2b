/- The document's Good of a message that the overlay sends: without marks and entries it may be. -/
import Derived.Test.YtbpdchaeakihkaaGreatRGoodC
import Derived.Test.YtbpdchaeakihkaaGreatPaths
namespace Go.Proofs.YtbpdchaeakihkaaGreat
open Go.RowKit Go.Qd
attribute [local go_sem ↓] execOp_ldAny execOp_eqR execOp_neR execOp_b71
attribute [local go_sem] run_eqR run_neR run_b71

theorem kinds9 {k : Nat} (h1 : 1 ≤ k) (h9 : k ≤ 9) : k = 1 ∨ k = 2 ∨ k = 3 ∨ k = 4 ∨ k = 5 ∨ k = 6 ∨ k = 7 ∨ k = 8 ∨ k = 9 := by omega
theorem cnt9 {m : MsgV} {k : Nat} (h1 : 1 ≤ k) (h9 : k ≤ 9) (hm : m.mn = 0) (he : m.en = 0) (hp : m.pn ≤ 8) : cntB m k = true := by
  unfold cntB
  rw [hm, he]
  have e : decide ((m.pn : Int) ≤ 8) = true := decide_eq_true (by omega)
  rw [e]
  rcases kinds9 h1 h9 with rfl | rfl | rfl | rfl | rfl | rfl | rfl | rfl | rfl <;> rfl
theorem fld9 {m : MsgV} {k : Nat} (h1 : 1 ≤ k) (h9 : k ≤ 9) (hn : m.number = 0) (hs : m.sum = 0) (hz : mzB m = true) (f1 : k ≠ 2 → k ≠ 7 → m.peer = 0 ∧ m.hops = 0) (f2 : k ≠ 3 → m.high = false) (f3 : k ≠ 7 → k ≠ 8 → m.pn = 0) : fldB m k = true := by
  have n0 : (m.number == 0) = true := by rw [hn]; rfl
  have s0 : (m.sum == 0) = true := by rw [hs]; rfl
  have c : fldC m k = true := by unfold fldC; rw [n0, s0, hz]; simp
  have a : fldA m k = false := by
    unfold fldA
    have g1 : (!hasB k 0 && ((m.peer != 0) || (m.hops != 0))) = false := by
      by_cases h : k = 2 ∨ k = 7
      · rcases h with rfl | rfl <;> rfl
      · obtain ⟨e1, e2⟩ := f1 (fun g => h (.inl g)) (fun g => h (.inr g))
        rw [e1, e2]; simp
    have g2 : (!hasB k 2 && m.high) = false := by
      by_cases h : k = 3
      · subst h; rfl
      · rw [f2 h]; simp
    have g3 : (!hasB k 3 && decide (0 < m.pn)) = false := by
      by_cases h : k = 7 ∨ k = 8
      · rcases h with rfl | rfl <;> rfl
      · rw [f3 (fun g => h (.inl g)) (fun g => h (.inr g))]; simp
    rw [g1, g2, g3]; rfl
  unfold fldB
  rw [a, c]; rfl

section
variable {W w : World} {R : List HP} {post : Ending → World → Prop} {m : MsgV} {k : Nat}

set_option maxRecDepth 100000 in
set_option maxHeartbeats 16000000 in
theorem rgood0_c (h1 : 1 ≤ k) (h2 : k < 20) (hk : m.kind = k) (e0 : cntB m k = true) (e1 : fldB m k = true) (e2 : siteB m.peer = true) (e3 : 0 ≤ m.hops ∧ m.hops ≤ 8) (en : m.number = 0) (ez : mzB m = true)
    (ep : ∀ x ∈ m.ps, siteB x = true) (hm : m.mn = 0) (he : m.en = 0) (hp : Rds W R 1 m.pa m.pn m.pc (ivs m.ps))
    (st : St W w R) (K : ∀ w', St W w' R → post (.returned (.int .i64 0)) w') : Calls Tryz.prog 28 #[.agg m.cells.toArray] w post := by
  have HK := hid K; clear K
  obtain ⟨pa, hpa⟩ : ∃ x, m.pa = x := ⟨_, rfl⟩
  obtain ⟨pn, hpn⟩ : ∃ x, m.pn = x := ⟨_, rfl⟩
  obtain ⟨pc, hpc⟩ : ∃ x, m.pc = x := ⟨_, rfl⟩
  rw [hpa, hpn, hpc] at hp
  have HF : Hid ((.slice m.pa m.pn m.pc : Value) = .slice pa pn pc ∧ (.slice m.ma m.mn m.mq : Value) = .slice m.ma 0 m.mq ∧ (.slice m.ea m.en m.eq : Value) = .slice m.ea 0 m.eq ∧ m.number = 0) := hid ⟨by rw [hpa, hpn, hpc], by rw [hm], by rw [he], en⟩
  clear hpa hpn hpc hm he en
  have HP := hid hp; have HEP := hid ep
  have HNl : Hid (m.ps.length = pn) := hid (ivs_len (hp w st))
  have big1 := (hp w st).big
  have i1 : decide ((k : Int) < 1) = false := decide_eq_false (by omega)
  have i2 : decide (19 < (k : Int)) = false := decide_eq_false (by omega)
  have i3 : decide (m.hops < 0) = false := decide_eq_false (by omega)
  have i4 : decide (8 < m.hops) = false := decide_eq_false (by omega)
  replace h1 := hid h1; replace h2 := hid h2
  have H0 := hid e0; have H1 := hid e1; have H2 := hid e2
  clear hp ep e0 e1 e2 e3
  go_enter Tryz.func28, Tryz.ntmps28
  go_wp2_with (first
    | (refine wpl_boxA (vs := m.cells) rfl (.tmp 0) rfl rfl st ?_; rintro T w1 s; obtain ⟨⟨c0, c1, c2, c3, c4, c5, c6, c7⟩, c8, c9, cT⟩ := msgAll hk s; rw [HF.out.1] at c4; rw [HF.out.2.2.2] at c5; rw [HF.out.2.1] at c8; rw [HF.out.2.2.1] at c9)
    | (go_at_call 62; refine counts_c h1.out h2.out hk s ?_; rw [H0.out]; clear c0 c1 c2 c3 c4 c5 c6 c7 c8 c9 cT s; rintro w1 s; obtain ⟨⟨c0, c1, c2, c3, c4, c5, c6, c7⟩, c8, c9, cT⟩ := msgAll hk s; rw [HF.out.1] at c4; rw [HF.out.2.2.2] at c5; rw [HF.out.2.1] at c8; rw [HF.out.2.2.1] at c9)
    | (go_at_call 63; refine fields_c hk s ?_; rw [H1.out]; clear c0 c1 c2 c3 c4 c5 c6 c7 c8 c9 cT s; rintro w1 s; obtain ⟨⟨c0, c1, c2, c3, c4, c5, c6, c7⟩, c8, c9, cT⟩ := msgAll hk s; rw [HF.out.1] at c4; rw [HF.out.2.2.2] at c5; rw [HF.out.2.1] at c8; rw [HF.out.2.2.1] at c9)
    | (go_at_call 64; refine rsite_c ?_; rw [H2.out]))
  go_loopw [3] (fun ii wr => ∃ i : Nat, i ≤ pn ∧ ii = .int .i64 i ∧ St W wr (row T 0 m.cells :: R)) (fun ii _ => pn - (intOf ii).toNat)
  case atStart => exact ⟨0, Nat.zero_le _, rfl, s⟩
  case round =>
    clear c0 c1 c2 c3 c4 c5 c6 c7 c8 c9 cT s
    obtain ⟨i, hi, rfl, s⟩ := hrel
    obtain ⟨⟨c0, c1, c2, c3, c4, c5, c6, c7⟩, c8, c9, cT⟩ := msgAll hk s; rw [HF.out.1] at c4; rw [HF.out.2.1] at c8; rw [HF.out.2.2.1] at c9
    by_cases hlt : i < pn
    · have hi2 : (i : Int) < (pn : Int) := by omega
      have rd := HP.out _ s.drop
      obtain ⟨g3, o3, rfl⟩ := rd.addr (by omega)
      have hiA : i < m.ps.length := by rw [HNl.out]; exact hlt
      have ci := run_ldP (t := 3) (by kernel_rfl) (rd.at (ivs_get hiA))
      have hb := HEP.out _ (List.getElem_mem hiA)
      obtain ⟨q, hq⟩ : ∃ q, m.ps[i] = q := ⟨_, rfl⟩
      rw [hq] at ci hb
      have HB := hid hb
      clear hq rd hiA hb
      go_wp2_with (go_at_call 64; refine rsite_c ?_; rw [HB.out])
      go_roundw
      case rel => exact ⟨i + 1, by omega, by go_num, s⟩
      case measure => simp [intOf]; omega
    · have hie : pn = i := by omega
      subst hie
      go_wp2_with fail
      go_loopw [4] (fun ii wr => ii = .int .i64 0 ∧ St W wr (row T 0 m.cells :: R)) (fun _ _ => 0)
      case atStart => exact ⟨rfl, s⟩
      case round =>
        clear c0 c1 c2 c3 c4 c5 c6 c7 c8 c9 cT s
        obtain ⟨rfl, s⟩ := hrel
        obtain ⟨⟨c0, c1, c2, c3, c4, c5, c6, c7⟩, c8, c9, cT⟩ := msgAll hk s; rw [HF.out.1] at c4; rw [HF.out.2.1] at c8; rw [HF.out.2.2.1] at c9
        go_wp2_with fail
        go_loopw [5] (fun ii wr => ii = .int .i64 0 ∧ St W wr (row T 0 m.cells :: R)) (fun _ _ => 0)
        case atStart => exact ⟨rfl, s⟩
        case round =>
          clear c0 c1 c2 c3 c4 c5 c6 c7 c8 c9 cT s
          obtain ⟨rfl, s⟩ := hrel
          obtain ⟨⟨c0, c1, c2, c3, c4, c5, c6, c7⟩, c8, c9, cT⟩ := msgAll hk s; rw [HF.out.1] at c4; rw [HF.out.2.1] at c8; rw [HF.out.2.2.1] at c9
          go_wp2_with fail
          exact HK.out _ s.drop

/-- A message that the overlay sends is good. -/
theorem rgoodL_c (h : MsgOK m) (hl : m.ps.length = m.pn) (hp : Rds W R 1 m.pa m.pn m.pc (ivs m.ps)) (st : St W w R) (K : ∀ w', St W w' R → post (.returned (.int .i64 0)) w') :
    Calls Tryz.prog 28 #[.agg m.cells.toArray] w post := by
  obtain ⟨k, hk⟩ : ∃ k : Nat, m.kind = k := ⟨m.kind.toNat, by have := h.k.1; omega⟩
  have hk1 := h.k.1; have hk9 := h.k.2
  obtain ⟨z1, z2, z3, z4, z5, z6, z7⟩ := h.z
  have hz : mzB m = true := by unfold mzB; rw [z3, z4, z5]; rfl
  refine rgood0_c (k := k) (by omega) (by omega) hk (cnt9 (by omega) (by omega) z6 z7 (by have := h.l; omega)) (fld9 (by omega) (by omega) z1 z2 hz (fun a b => h.f1 (by omega) (by omega)) (fun a => h.f2 (by omega)) (fun a b => ?_))
    ?_ h.h z1 hz (fun x hx => ?_) z6 z7 hp st K
  · have := h.f3 (by omega) (by omega); rw [← hl, this]; rfl
  · unfold siteB; have := h.p; simp [this.1, this.2]
  · unfold siteB; have := h.n x hx; simp [this.1, this.2]
end

end Go.Proofs.YtbpdchaeakihkaaGreat
