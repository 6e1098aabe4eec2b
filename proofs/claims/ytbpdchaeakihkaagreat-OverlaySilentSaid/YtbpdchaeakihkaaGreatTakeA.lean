/- The overlay: fits, for the kinds without marks and entries. -/
import Derived.Test.YtbpdchaeakihkaaGreatWireH
import Derived.Test.YtbpdchaeakihkaaGreatOverL
namespace Go.Proofs.YtbpdchaeakihkaaGreat
open Go.RowKit Go.Qd

def fitsB (O : OV) (m : MsgV) (k : Nat) : Bool := goodB m k && (thereB O m.peer && !(m.ps.any fun p => !thereB O p))

section
variable {W w : World} {R : List HP} {post : Ending → World → Prop} {b d : Nat} {O : OV} {m : MsgV}

theorem pred95 {B : Nat} (hc : O.cfg.length = 20) : PredF W (row B 0 [Value.pointer (some ⟨b, 0, none⟩)] :: OvA b d O :: R) 95 #[.pointer (some ⟨B, 0, none⟩)] (fun p => !thereB O p) := by
  intro x w1 p1 s1 K
  have HK := hid K; clear K
  have c0 := row1c s1
  go_enter Tryz.func95, Tryz.ntmps95
  go_wp2_with (go_at_call 83; refine there_c (St.pick 1 s1) hc ?_)
  exact HK.out _ s1

attribute [local go_sem ↓] execOp_load58

set_option maxRecDepth 100000 in
set_option maxHeartbeats 4000000 in
theorem fits_c {k : Nat} (h1 : 1 ≤ k) (h9 : k ≤ 9) (hk : m.kind = k) (hp : Rds W (OvA b d O :: R) 1 m.pa m.pn m.pc (ivs m.ps)) (hn : m.pn ≤ 4096) (st : St W w (OvA b d O :: R)) (hc : O.cfg.length = 20)
    (K : ∀ w', St W w' (OvA b d O :: R) → post (.returned (.bool (fitsB O m k))) w') : Calls Tryz.prog 51 #[.pointer (some ⟨b, 0, none⟩), .agg m.cells.toArray] w post := by
  have HK := hid K; clear K
  have HP1 := hid hp
  have HN := hid hn
  have H1 := hid h1
  have H9 := hid h9
  have HKK := hid hk
  have k9 : decide ((k : Int) ≤ 9) = true := decide_eq_true (by omega)
  have s0 := st.alloc #[.pointer (some ⟨b, 0, none⟩)] 27
  unfold fitsB at HK
  obtain ⟨b0, e0⟩ : ∃ b, goodB m k = b := ⟨_, rfl⟩
  rw [e0] at HK
  have HG := hid e0
  clear e0 hp hn h1 h9 hk
  cases b0 with
  | false =>
    simp only [Bool.false_and] at HK
    go_enter Tryz.func51, Tryz.ntmps51
    go_wp2_with (first
      | (refine wpl_boxA (vs := m.cells) rfl (.tmp 1) rfl rfl s0 ?_; rintro T w1 s1; have f1 := lg58 s1)
      | (go_at_call 93; refine good_c H1.out H9.out HKK.out HP1.out.cons.cons HN.out s1 ?_; rintro w2 s2; rw [HG.out]))
    exact HK.out _ (s2.dropN 2)
  | true =>
    simp only [Bool.true_and] at HK
    obtain ⟨b1, e1⟩ : ∃ b, thereB O m.peer = b := ⟨_, rfl⟩
    rw [e1] at HK
    have HT := hid e1
    clear e1
    cases b1 with
    | false =>
      simp only [Bool.false_and] at HK
      go_enter Tryz.func51, Tryz.ntmps51
      go_wp2_with (first
        | (refine wpl_boxA (vs := m.cells) rfl (.tmp 1) rfl rfl s0 ?_; rintro T w1 s1; have f1 := lg58 s1)
        | (go_at_call 93; refine good_c H1.out H9.out HKK.out HP1.out.cons.cons HN.out s1 ?_; rintro w2 s2; rw [HG.out]
           obtain ⟨g0, g1, _, _, g4, _⟩ := boxM s2; rw [HKK.out] at g0; have k0 := row1c (St.pick 1 s2))
        | (go_at_call 83; refine there_c (St.pick 2 s2) hc ?_; rw [HT.out]))
      exact HK.out _ (s2.dropN 2)
    | true =>
      simp only [Bool.true_and] at HK
      go_enter Tryz.func51, Tryz.ntmps51
      go_wp2_with (first
        | (refine wpl_boxA (vs := m.cells) rfl (.tmp 1) rfl rfl s0 ?_; rintro T w1 s1; have f1 := lg58 s1)
        | (go_at_call 93; refine good_c H1.out H9.out HKK.out HP1.out.cons.cons HN.out s1 ?_; rintro w2 s2; rw [HG.out]
           obtain ⟨g0, g1, _, _, g4, _⟩ := boxM s2; rw [HKK.out] at g0; have k0 := row1c (St.pick 1 s2))
        | (go_at_call 83; refine there_c (St.pick 2 s2) hc ?_; rw [HT.out])
        | (go_at_call 94; refine contF95_c (HP1.out.cons) HN.out (pred95 hc) s2.drop ?_; rintro w3 s3))
      exact HK.out _ s3.drop

end

end Go.Proofs.YtbpdchaeakihkaaGreat
