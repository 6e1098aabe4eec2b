/- The law RumorNew: the walk. Printed by mkRumF.py. -/
import Derived.Test.YtpjdcijphnkioaaGreatDoorRumF
namespace Go.Proofs.YtpjdcijphnkioaaGreatDoor
open Go.RowKit Go.Qd RepV

section
attribute [local go_sem ↓] execOp_ldAny
variable {W : World} {post : Ending → World → Prop}
theorem law_ld {W w : World} {R : List HP} {T C : Nat} {o : OptV} {c : List Int} (hc : c.length = 20) (s : St W w (row C 0 (ivs c) :: row T 0 o.cells :: R)) :
    (loadG 23 (.pointer (some ⟨T, 0, none⟩))).run Tryz.prog w = .ok (.agg o.cells.toArray) w ∧ (loadG 3 (.pointer (some ⟨T, 0, none⟩))).run Tryz.prog w = .ok (.int .i64 o.nodes) w ∧ (loadG 25 (.pointer (some ⟨C, 0, none⟩))).run Tryz.prog w = .ok (.agg (ivs c).toArray) w :=
  ⟨run_loadG agg_ropt (vs := o.cells) rfl (St.pick 1 s).rowAll, run_ldP (by kernel_rfl) (optRow (St.pick 1 s)).1, run_loadG agg23 (ivs_len20 hc) s.rowAll⟩
set_option maxRecDepth 100000 in
set_option maxHeartbeats 16000000 in
theorem rumorNew_c {c : List Int} {self : Int} {o : OptV} (hc : c.length = 20) (hf : FirstW W) (K : ∀ W2, Below W.heap.size W W2 → post (.returned (.bool true)) W2) :
    Calls Tryz.prog 3 #[.int .i64 self, .agg o.cells.toArray, .agg (ivs c).toArray] W post := by
  have HK := hid K; clear K
  have HC := hid hc; clear hc
  have HF := hid hf; clear hf
  have st := St.init W
  by_cases hk : o.check = 0
  · have HO := hid hk; clear hk
    by_cases h0 : self < 0
    · have d0 : decide (self < 0) = true := decide_eq_true h0
      clear h0
      go_enter Tryz.func3, Tryz.ntmps3
      go_wp2_with (first
        | (replace st := hid st; refine wpl_boxA (vs := o.cells) rfl (.tmp 1) rfl rfl st.out ?_; rintro T w1 s1; clear st)
        | (replace s1 := hid s1; refine wpl_boxA (vs := ivs c) rfl (.tmp 2) rfl rfl s1.out ?_; rintro C w2 s2; clear s1)
        | (go_at_call 4; have gg := s4; refine speaks_c HF.out s4 ?_; clear gg; rintro w9 s9)
        | (go_at_call 4; refine speaks_c HF.out s2 ?_; rintro w3 s3; clear s2; obtain ⟨l0, l1, l2⟩ := law_ld HC.out s3)
        | (go_at_call 5; refine rocheck_yes HO.out s3 ?_; rintro w4 s4; clear s3 l0 l1 l2; obtain ⟨l0, l1, l2⟩ := law_ld HC.out s4))
      exact HK.out _ s9.below
    · by_cases h1 : o.nodes ≤ self
      · have d0 : decide (self < 0) = false := decide_eq_false h0
        have d1 : decide (o.nodes ≤ self) = true := decide_eq_true h1
        clear h0 h1
        go_enter Tryz.func3, Tryz.ntmps3
        go_wp2_with (first
          | (replace st := hid st; refine wpl_boxA (vs := o.cells) rfl (.tmp 1) rfl rfl st.out ?_; rintro T w1 s1; clear st)
          | (replace s1 := hid s1; refine wpl_boxA (vs := ivs c) rfl (.tmp 2) rfl rfl s1.out ?_; rintro C w2 s2; clear s1)
          | (go_at_call 4; have gg := s4; refine speaks_c HF.out s4 ?_; clear gg; rintro w9 s9)
          | (go_at_call 4; refine speaks_c HF.out s2 ?_; rintro w3 s3; clear s2; obtain ⟨l0, l1, l2⟩ := law_ld HC.out s3)
          | (go_at_call 5; refine rocheck_yes HO.out s3 ?_; rintro w4 s4; clear s3 l0 l1 l2; obtain ⟨l0, l1, l2⟩ := law_ld HC.out s4))
        exact HK.out _ s9.below
      · have d0 : decide (self < 0) = false := decide_eq_false h0
        have d1 : decide (o.nodes ≤ self) = false := decide_eq_false h1
        have HS : Hid (0 ≤ self ∧ self < o.nodes) := hid ⟨by omega, by omega⟩
        clear h0 h1
        cases hr : rightB c with
        | false =>
          have HR := hid hr; clear hr
          go_enter Tryz.func3, Tryz.ntmps3
          go_wp2_with (first
            | (replace st := hid st; refine wpl_boxA (vs := o.cells) rfl (.tmp 1) rfl rfl st.out ?_; rintro T w1 s1; clear st)
            | (replace s1 := hid s1; refine wpl_boxA (vs := ivs c) rfl (.tmp 2) rfl rfl s1.out ?_; rintro C w2 s2; clear s1)
            | (go_at_call 4; refine speaks_c HF.out s2 ?_; rintro w3 s3; clear s2; obtain ⟨l0, l1, l2⟩ := law_ld HC.out s3)
            | (go_at_call 5; refine rocheck_yes HO.out s3 ?_; rintro w4 s4; clear s3 l0 l1 l2; obtain ⟨l0, l1, l2⟩ := law_ld HC.out s4)
            | (go_at_call 7; refine of12_c s4 ?_; rintro w5 s5; clear s4 l0 l1 l2)
            | (go_at_call 8; refine dnew_c s5 ?_; rintro d w6 s6; clear s5)
            | (go_at_call 6; refine open0_g (o := o) (D' := DskV.new) HO.out HS.out (jopens0 DskOK.new rfl rfl) s6 ?_; rintro A w7 - s7'; clear s6; have s7 : St W w7 (row C 0 (ivs c) :: row T 0 o.cells :: [RepA A (RepV.fresh o.nodes o.quota o.retain o.t1 o.t2 self DskV.new)]) := s7'.perm [1, 1]; clear s7'; obtain ⟨l0, l1, l2⟩ := law_ld HC.out s7)
            | (go_at_call 10; refine of_c s7 HC.out ?_; rintro w8 s8; clear s7 l0 l1 l2)
            | (go_at_call 11; refine dicenew_c s8 ?_; rintro dp w8b s8b; clear s8)
            | (go_at_call 9; refine mnew_bad s8b HC.out HR.out ?_; rintro wa sa'; clear s8b; have sa := sa'.perm [1, 1]; clear sa'; obtain ⟨l0, l1, l2⟩ := law_ld HC.out sa)
            | (go_at_call 12; refine ropen0_c HO.out HS.out sa ?_; rintro wb sb; clear l0 l1 l2 sa)
            | (refine wpl_allocA rfl rfl zero_doc sb ?_; rintro D wc sc; clear sb)
            | (refine wpl_storeA (vs := docZ o self) rfl (.tmp 11) (.tmp 59) (by rfl) agg_doc (by rfl) (by rfl) rfl (docZ_one _ _) sc rfl ?_; rintro wd sd; clear sc; obtain ⟨l0, l1, l2⟩ := law_ld HC.out (sd.perm [1, 1]); have l3 := run_loadG agg_doc (vs := docZ o self) rfl sd.rowAll)
            | (go_at_call 13; refine rmnew_bad HC.out HR.out sd ?_; rintro we se; clear sd l0 l1 l2 l3)
            | (refine wpl_allocA rfl rfl zero_rmill se ?_; rintro E wf sf; clear se)
            | (refine wpl_storeA (vs := rmill0) rfl (.tmp 13) (.tmp 65) (by rfl) agg_rmill (by rfl) (by rfl) rfl rmill0_one sf rfl ?_; rintro wg sg; clear sf))
          exact HK.out _ sg.below
        | true =>
          have HR := hid hr; clear hr
          by_cases hs : c.getD 0 0 ≤ self
          · have HSI := hid hs; clear hs
            go_enter Tryz.func3, Tryz.ntmps3
            go_wp2_with (first
              | (replace st := hid st; refine wpl_boxA (vs := o.cells) rfl (.tmp 1) rfl rfl st.out ?_; rintro T w1 s1; clear st)
              | (replace s1 := hid s1; refine wpl_boxA (vs := ivs c) rfl (.tmp 2) rfl rfl s1.out ?_; rintro C w2 s2; clear s1)
              | (go_at_call 4; refine speaks_c HF.out s2 ?_; rintro w3 s3; clear s2; obtain ⟨l0, l1, l2⟩ := law_ld HC.out s3)
              | (go_at_call 5; refine rocheck_yes HO.out s3 ?_; rintro w4 s4; clear s3 l0 l1 l2; obtain ⟨l0, l1, l2⟩ := law_ld HC.out s4)
              | (go_at_call 7; refine of12_c s4 ?_; rintro w5 s5; clear s4 l0 l1 l2)
              | (go_at_call 8; refine dnew_c s5 ?_; rintro d w6 s6; clear s5)
              | (go_at_call 6; refine open0_g (o := o) (D' := DskV.new) HO.out HS.out (jopens0 DskOK.new rfl rfl) s6 ?_; rintro A w7 - s7'; clear s6; have s7 : St W w7 (row C 0 (ivs c) :: row T 0 o.cells :: [RepA A (RepV.fresh o.nodes o.quota o.retain o.t1 o.t2 self DskV.new)]) := s7'.perm [1, 1]; clear s7'; obtain ⟨l0, l1, l2⟩ := law_ld HC.out s7)
              | (go_at_call 10; refine of_c s7 HC.out ?_; rintro w8 s8; clear s7 l0 l1 l2)
              | (go_at_call 11; refine dicenew_c s8 ?_; rintro dp w8b s8b; clear s8)
              | (go_at_call 9; refine mnew_site (s8b.perm [3]) HC.out HR.out HSI.out ?_; rintro wa sa'; clear s8b; have sa := sa'.perm [2, 2]; clear sa'; obtain ⟨l0, l1, l2⟩ := law_ld HC.out sa)
              | (go_at_call 12; refine ropen0_c HO.out HS.out sa ?_; rintro wb sb; clear l0 l1 l2 sa)
              | (refine wpl_allocA rfl rfl zero_doc sb ?_; rintro D wc sc; clear sb)
              | (refine wpl_storeA (vs := docZ o self) rfl (.tmp 11) (.tmp 59) (by rfl) agg_doc (by rfl) (by rfl) rfl (docZ_one _ _) sc rfl ?_; rintro wd sd; clear sc; obtain ⟨l0, l1, l2⟩ := law_ld HC.out (sd.perm [1, 1]); have l3 := run_loadG agg_doc (vs := docZ o self) rfl sd.rowAll)
              | (go_at_call 13; refine rmnew_site HC.out HR.out HSI.out sd ?_; rintro we se; clear sd l0 l1 l2 l3)
              | (refine wpl_allocA rfl rfl zero_rmill se ?_; rintro E wf sf; clear se)
              | (refine wpl_storeA (vs := rmill0) rfl (.tmp 13) (.tmp 65) (by rfl) agg_rmill (by rfl) (by rfl) rfl rmill0_one sf rfl ?_; rintro wg sg; clear sf))
            exact HK.out _ sg.below
          · have HSI : Hid (self < c.getD 0 0) := hid (by omega)
            clear hs
            go_enter Tryz.func3, Tryz.ntmps3
            go_wp2_with (first
              | (replace st := hid st; refine wpl_boxA (vs := o.cells) rfl (.tmp 1) rfl rfl st.out ?_; rintro T w1 s1; clear st)
              | (replace s1 := hid s1; refine wpl_boxA (vs := ivs c) rfl (.tmp 2) rfl rfl s1.out ?_; rintro C w2 s2; clear s1)
              | (go_at_call 4; refine speaks_c HF.out s2 ?_; rintro w3 s3; clear s2; obtain ⟨l0, l1, l2⟩ := law_ld HC.out s3)
              | (go_at_call 5; refine rocheck_yes HO.out s3 ?_; rintro w4 s4; clear s3 l0 l1 l2; obtain ⟨l0, l1, l2⟩ := law_ld HC.out s4)
              | (go_at_call 7; refine of12_c s4 ?_; rintro w5 s5; clear s4 l0 l1 l2)
              | (go_at_call 8; refine dnew_c s5 ?_; rintro d w6 s6; clear s5)
              | (go_at_call 6; refine open0_g (o := o) (D' := DskV.new) HO.out HS.out (jopens0 DskOK.new rfl rfl) s6 ?_; rintro A w7 - s7'; clear s6; have s7 : St W w7 (row C 0 (ivs c) :: row T 0 o.cells :: [RepA A (RepV.fresh o.nodes o.quota o.retain o.t1 o.t2 self DskV.new)]) := s7'.perm [1, 1]; clear s7'; obtain ⟨l0, l1, l2⟩ := law_ld HC.out s7)
              | (go_at_call 10; refine of_c s7 HC.out ?_; rintro w8 s8; clear s7 l0 l1 l2)
              | (go_at_call 11; refine dicenew_c s8 ?_; rintro dp w8b s8b; clear s8)
              | (go_at_call 9; refine mnew_c (s8b.perm [3]) HC.out HR.out HSI.out ?_; rintro b wa sa'; clear s8b; have sa := sa'.perm [3, 3]; clear sa'; obtain ⟨l0, l1, l2⟩ := law_ld HC.out sa)
              | (go_at_call 12; refine ropen0_c HO.out HS.out sa ?_; rintro wb sb; clear l0 l1 l2 sa)
              | (refine wpl_allocA rfl rfl zero_doc sb ?_; rintro D wc sc; clear sb)
              | (refine wpl_storeA (vs := docZ o self) rfl (.tmp 11) (.tmp 59) (by rfl) agg_doc (by rfl) (by rfl) rfl (docZ_one _ _) sc rfl ?_; rintro wd sd; clear sc; obtain ⟨l0, l1, l2⟩ := law_ld HC.out (sd.perm [1, 1]); have l3 := run_loadG agg_doc (vs := docZ o self) rfl sd.rowAll)
              | (go_at_call 13; refine rmnew_c HC.out HR.out HSI.out sd ?_; rintro we se; clear sd l0 l1 l2 l3)
              | (refine wpl_allocA rfl rfl zero_rmill se ?_; rintro E wf sf; clear se)
              | (refine wpl_storeA (vs := rmillC c (docZ o self)) rfl (.tmp 13) (.tmp 65) (by rfl) agg_rmill (by rfl) (by rfl) (rmill_len HC.out _ _) (rmill_one _ _ _) sf rfl ?_; rintro wg sg; clear sf))
            exact HK.out _ sg.below
  · have HO := hid hk; clear hk
    go_enter Tryz.func3, Tryz.ntmps3
    go_wp2_with (first
      | (replace st := hid st; refine wpl_boxA (vs := o.cells) rfl (.tmp 1) rfl rfl st.out ?_; rintro T w1 s1; clear st)
      | (replace s1 := hid s1; refine wpl_boxA (vs := ivs c) rfl (.tmp 2) rfl rfl s1.out ?_; rintro C w2 s2; clear s1)
      | (go_at_call 4; have gg := s4; refine speaks_c HF.out s4 ?_; clear gg; rintro w9 s9)
      | (go_at_call 4; refine speaks_c HF.out s2 ?_; rintro w3 s3; clear s2; obtain ⟨l0, l1, l2⟩ := law_ld HC.out s3)
      | (go_at_call 5; refine rocheck_c s3 (fun h => absurd h HO.out) ?_; rintro w4 s4; clear s3 l0 l1 l2; obtain ⟨l0, l1, l2⟩ := law_ld HC.out s4))
    exact HK.out _ s9.below
end
end Go.Proofs.YtpjdcijphnkioaaGreatDoor
