/- The overlay: what never fits: kinds above Beat, kinds that there aren't. -/
import Derived.Test.YtbpdchaeakihkaaGreatWireI
import Derived.Test.YtbpdchaeakihkaaGreatTakeL
namespace Go.Proofs.YtbpdchaeakihkaaGreat
open Go.RowKit Go.Qd

section
variable {W w : World} {R : List HP} {post : Ending → World → Prop} {b d : Nat} {O : OV} {m : MsgV} {ks : List MkV} {es : List EnV}
attribute [local go_sem ↓] execOp_load58

set_option maxRecDepth 100000 in
set_option maxHeartbeats 4000000 in
theorem good_no (h : ¬ (1 ≤ m.kind ∧ m.kind < 20)) (st : St W w R) (K : ∀ w', St W w' R → post (.returned (.int .i64 1)) w') : Calls Tryz.prog 93 #[.agg m.cells.toArray] w post := by
  have HK := hid K; clear K
  have HH := hid h; clear h
  go_enter Tryz.func93, Tryz.ntmps93
  go_wp2_with (first
    | (replace st := hid st; refine wpl_boxA (vs := m.cells) rfl (.tmp 0) rfl rfl st.out ?_; rintro T w1 s1; obtain ⟨g0, _⟩ := boxM s1; clear st)
    | (go_at_call 140; refine formOf_no s1 HH.out ?_; rintro w2 s2; clear s1)
    | (replace s2 := hid s2; refine wpl_allocA rfl rfl zero195 s2.out ?_; rintro F w3 s3; clear s2)
    | (replace s3 := hid s3; refine wpl_storeA (vs := noForm) rfl (.tmp 3) (.tmp 9) (by rfl) agg195 (by rfl) (by rfl) rfl noForm_one s3.out (by simp) ?_; rintro w4 s4; clear s3))
  exact HK.out _ (s4.dropN 2)

set_option maxRecDepth 100000 in
set_option maxHeartbeats 4000000 in
theorem fits_none (h : ¬ (1 ≤ m.kind ∧ m.kind < 20)) (st : St W w (OvA b d O :: R)) (K : ∀ w', St W w' (OvA b d O :: R) → post (.returned (.bool false)) w') :
    Calls Tryz.prog 51 #[.pointer (some ⟨b, 0, none⟩), .agg m.cells.toArray] w post := by
  have HK := hid K; clear K
  have HH := hid h; clear h
  have s0 := st.alloc #[.pointer (some ⟨b, 0, none⟩)] 27
  go_enter Tryz.func51, Tryz.ntmps51
  go_wp2_with (first
    | (refine wpl_boxA (vs := m.cells) rfl (.tmp 1) rfl rfl s0 ?_; rintro T w1 s1; have f1 := lg58 s1)
    | (go_at_call 93; refine good_no HH.out s1 ?_; rintro w2 s2))
  exact HK.out _ (s2.dropN 2)

set_option maxRecDepth 100000 in
set_option maxHeartbeats 4000000 in
theorem fits_big {k : Nat} (h1 : 10 ≤ k) (h9 : k < 20) (hk : m.kind = k) (hp : Rds W (OvA b d O :: R) 1 m.pa m.pn m.pc (ivs m.ps)) (hn : m.pn ≤ 4096) (hpM : Rds W (OvA b d O :: R) 3 m.ma m.mn m.mq (mkC ks)) (hnM : m.mn ≤ 4096)
    (hpE : Rds W (OvA b d O :: R) 9 m.ea m.en m.eq (enC es)) (hnE : m.en ≤ 4096) (st : St W w (OvA b d O :: R)) (K : ∀ w', St W w' (OvA b d O :: R) → post (.returned (.bool false)) w') :
    Calls Tryz.prog 51 #[.pointer (some ⟨b, 0, none⟩), .agg m.cells.toArray] w post := by
  have HK := hid K; clear K
  have HP1 := hid hp; have HPM := hid hpM; have HPE := hid hpE
  have HN := hid hn; have HNM := hid hnM; have HNE := hid hnE
  have H1 := hid h1; have H9 := hid h9; have HKK := hid hk
  have k9 : decide ((k : Int) ≤ 9) = false := decide_eq_false (by omega)
  have s0 := st.alloc #[.pointer (some ⟨b, 0, none⟩)] 27
  obtain ⟨b0, e0⟩ : ∃ b, goodX m k ks es = b := ⟨_, rfl⟩
  have HG := hid e0
  clear e0 hp hn h1 h9 hk hpM hpE hnM hnE
  cases b0 with
  | false =>
    go_enter Tryz.func51, Tryz.ntmps51
    go_wp2_with (first
      | (refine wpl_boxA (vs := m.cells) rfl (.tmp 1) rfl rfl s0 ?_; rintro T w1 s1; have f1 := lg58 s1)
      | (go_at_call 93; refine goodx_c (by have := H1.out; omega) H9.out HKK.out HP1.out.cons.cons HN.out HPM.out.cons.cons HNM.out HPE.out.cons.cons HNE.out s1 ?_; rintro w2 s2; rw [HG.out]))
    exact HK.out _ (s2.dropN 2)
  | true =>
    go_enter Tryz.func51, Tryz.ntmps51
    go_wp2_with (first
      | (refine wpl_boxA (vs := m.cells) rfl (.tmp 1) rfl rfl s0 ?_; rintro T w1 s1; have f1 := lg58 s1)
      | (go_at_call 93; refine goodx_c (by have := H1.out; omega) H9.out HKK.out HP1.out.cons.cons HN.out HPM.out.cons.cons HNM.out HPE.out.cons.cons HNE.out s1 ?_; rintro w2 s2; rw [HG.out]
         obtain ⟨g0, _⟩ := boxM s2; rw [HKK.out] at g0))
    exact HK.out _ (s2.dropN 2)

end

end Go.Proofs.YtbpdchaeakihkaaGreat
