/- ViewsPlay: the law's own walk. -/
import Derived.Test.YtnibgchgcggfbacRefG
import Derived.Test.YtnibgchgcggfbacGuard
import Derived.Test.YtnibgchgcggfbacActs
import Derived.Test.YtnibgchgcggfbacViewsS
namespace Go.Proofs.Ytnibgchgcggfbac
open Go.RowKit Go.Qd

theorem VOK.act {V : VV} (h : VOK V) (D : List Int) (kind q : Int) : VOK (actV V D kind q) := by
  unfold actV; split
  · exact h.raise D q
  · split
    · exact h.lower D q
    · exact h.learn D q

/-- Where the loop stands. -/
def PlayAt (W : World) (b d T : Nat) (V : VV) (D : List Int) (a : Option Addr) (m c : Nat) (wr : World) : Prop :=
  VOK V ∧ St W wr (row T 0 (refCells V) :: ViewsA b V :: DiceA d D :: RdH W 1 a m c (ivs D) :: [])

theorem isActive_v {W w : World} {R : List HP} {post : Ending → World → Prop} {V : VV} {b : Nat} {p : Int} {c : Bool} (st : St W w (ViewsA b V :: R)) (h : memB V.a p = c) (K : post (.returned (.bool c)) w) : Calls Try.prog 9 #[.pointer (some ⟨b, 0, none⟩), .int .i64 p] w post :=
  isActive_c st (by rw [h]; exact K)
theorem isPassive_v {W w : World} {R : List HP} {post : Ending → World → Prop} {V : VV} {b : Nat} {p : Int} {c : Bool} (st : St W w (ViewsA b V :: R)) (h : memB V.p p = c) (K : post (.returned (.bool c)) w) : Calls Try.prog 13 #[.pointer (some ⟨b, 0, none⟩), .int .i64 p] w post :=
  isPassive_c st (by rw [h]; exact K)

set_option maxRecDepth 100000 in
set_option maxHeartbeats 8000000 in
theorem viewsPlay_c {W : World} {post : Ending → World → Prop} {ad al : Option Addr} {nd nl cd cl : Nat} {zd : List Int} {l : List ActV} {self am pm : Int}
    (rd : RdS W 1 ad nd cd (ivs zd)) (rl : RdS W 3 al nl cl (actCells l))
    (K : ∀ w', Below W.heap.size W w' → post (.returned (.bool true)) w') : Calls Try.prog 5 #[.int .i64 self, .int .i64 am, .int .i64 pm, .slice ad nd cd, .slice al nl cl] W post := by
  have HK := hid K; clear K
  have hml := rl.big
  have hmd := rd.big
  have s0 := St.init W
  have hll := hid (actCells_len rl)
  by_cases hg : nl ≤ 60 ∧ nd ≤ 100
  · obtain ⟨hg1, hg2⟩ := hg
    by_cases hnew : nodeB self = true ∧ (1 ≤ am ∧ am < 12) ∧ (1 ≤ pm ∧ pm < 12)
    · have HN := hid hnew
      clear hnew
      go_enter Try.func5, Try.ntmps5
      go_wp2_with (first
        | (go_at_call 6; refine speaks_c s0 ?_; rintro w1 s1)
        | (go_at_call 7; refine views_new_c s1 HN.out ?_; rintro b w2 s2)
        | (go_at_call 19; refine rnew_c s2 HN.out ?_; rintro w3 s3)
        | (refine wpl_allocA rfl rfl zero41 s3 ?_; rintro T w4 s4)
        | (refine wpl_storeA (vs := refCells ⟨self, [], am, [], pm⟩) rfl (.tmp 13) (.tmp 48) (by rfl) agg41 (by rfl) (by rfl) (refCells_len _) (refCells_one _) s4 rfl ?_; rintro w5 s5)
        | (go_at_call 8; refine new_c s5 (rd.st s5) (by omega) ?_; rintro d w6 s6))
      go_loopw [16, 67] (fun lv ii wr => ∃ (k : Nat) (V : VV) (D : List Int) (a : Option Addr) (m c : Nat), k ≤ nl ∧ ii = .int .i64 k ∧ lv = .slice a m c ∧ Hid (PlayAt W b d T V D a m c wr)) (fun _ ii _ => nl - (intOf ii).toNat)
      case atStart => exact ⟨0, _, zd, ad, nd, cd, Nat.zero_le _, rfl, rfl, hid ⟨VOK.start HN.out, (RdH.old rd s6).perm [2, 2, 2]⟩⟩
      case round =>
        obtain ⟨k, V, D, a, m, c, hk, rfl, rfl, hT⟩ := hrel
        obtain ⟨hV, sr⟩ := hT.out
        have HV := hid hV
        clear hV hT
        by_cases hlt : k < nl
        · obtain ⟨g, o, rfl⟩ := rl.addr (by omega)
          have hkl : k < l.length := by rw [hll.out]; exact hlt
          obtain ⟨c0, c1, c2⟩ := act_at (rl.st sr) hkl
          obtain ⟨x, hx⟩ : ∃ x, l[k] = x := ⟨_, rfl⟩
          rw [hx] at c0 c1 c2
          clear hx
          obtain ⟨xk, q, ask⟩ := x
          dsimp only at c0 c1 c2
          have s7 := sr.alloc #[.int .i64 xk, .int .i64 q, .int .i64 ask] 32
          obtain ⟨y0, y1, y2⟩ := box3 s7
          obtain ⟨V', hV'⟩ : ∃ V', actV V D xk q = V' := ⟨_, rfl⟩
          obtain ⟨D', hD'⟩ : ∃ D', actD V D xk q = D' := ⟨_, rfl⟩
          have HE := hid (And.intro hV' hD')
          have HV' := hid (show VOK V' by rw [← hV']; exact HV.out.act D xk q)
          clear hV' hD'
          obtain ⟨nb, hnb⟩ : ∃ nb, nodeB ask = nb := ⟨_, rfl⟩
          have HNB := hid hnb
          cases nb with
          | true =>
            obtain ⟨q0, q1⟩ := nodeB_iff.1 hnb
            obtain ⟨j, rfl⟩ := Int.eq_ofNat_of_zero_le q0
            have hj : j < 12 := by omega
            have hmx : max (j : Int) 0 = (j : Int) := by omega
            have hmn : min (j : Int) 11 = (j : Int) := by omega
            have HMX := hid hmx; have HMN := hid hmn
            obtain ⟨ma, hma⟩ : ∃ ma, memB V'.a (j : Int) = ma := ⟨_, rfl⟩
            obtain ⟨mp, hmp⟩ : ∃ mp, memB V'.p (j : Int) = mp := ⟨_, rfl⟩
            have HMA := hid hma; have HMP := hid hmp
            clear hnb hmx hmn hma hmp
            go_wp2_with (first
              | (refine wpl_loadA (vs := refCells V) rfl (.tmp 13) (by rfl) agg41 (by rfl) (refCells_len _) (St.pick 1 s7).rowAll ?_)
              | (go_at_call 20; refine do_c (V := V) (D := D) (s7.perm [2, 2, 2]) HV.out ?_; rw [HE.out.1, HE.out.2]; rintro a8 m8 c8 w8 s8)
              | (refine wpl_allocA rfl rfl zero41 s8 ?_; rintro X w9 s9)
              | (refine wpl_storeA (vs := refCells V') rfl (.tmp 19) (.tmp 78) (by rfl) agg41 (by rfl) (by rfl) (refCells_len _) (refCells_one _) s9 rfl ?_; rintro wA sA)
              | (refine wpl_loadA (vs := refCells V') rfl (.tmp 19) (by rfl) agg41 (by rfl) (refCells_len _) sA.rowAll ?_)
              | (refine wpl_storeA (vs := refCells V') rfl (.tmp 13) (.tmp 81) (by rfl) agg41 (by rfl) (by rfl) (refCells_len _) (refCells_one _) (St.pick 5 sA) (refCells_len _) ?_; rintro wB sB; obtain ⟨z0, z1, z2⟩ := box3 (St.pick 5 sB); have hm8 := ivs_len (RdH.rd (St.pick 4 sB)))
              | (go_at_call 18; refine rnode_c ?_; rw [HNB.out])
              | (refine wpl_loadAG (vs := refCells V') (by rfl) (.tmp 13) (by rfl) agg41 (by rfl) (refCells_len _) sB.rowAll ?_)
              | (go_at_call 21; refine is_c (St.pick 2 sB) HV'.out ?_; rintro wC sC; obtain ⟨v0, v1, v2⟩ := box3 (St.pick 5 sC); have pA := ref_a (St.pick 1 sC) hj; have pP := ref_p (St.pick 1 sC) hj; rw [HMA.out] at pA; rw [HMP.out] at pP)
              | (go_at_call 22; refine left_c (St.pick 3 sC) ?_; rw [hm8])
              | (go_at_call 9; refine isActive_c sC ?_; rw [HMA.out])
              | (go_at_call 13; refine isPassive_c sC ?_; rw [HMP.out])
              | (refine wpl_maxG (by rfl) _ _ (by rfl) (by rfl) (by rfl) ?_; rw [HMX.out])
              | (refine wpl_minG (by rfl) _ _ (by rfl) (by rfl) (by rfl) ?_; rw [HMN.out]))
            go_roundw
            case rel => exact ⟨k + 1, V', D', a8, m8, c8, by omega, by go_num, rfl, hid ⟨HV'.out, sC.sel [1, 0, 1, 1]⟩⟩
            case measure => simp [intOf]; omega
          | false =>
            have hma : memB V'.a ask = false := by
              cases h : memB V'.a ask with
              | false => rfl
              | true => have := (HV'.out.na _ (memB_iff.1 h)).1; rw [hnb] at this; exact absurd this (by decide)
            have hmp : memB V'.p ask = false := by
              cases h : memB V'.p ask with
              | false => rfl
              | true => have := (HV'.out.np _ (memB_iff.1 h)).1; rw [hnb] at this; exact absurd this (by decide)
            have HMA := hid hma; have HMP := hid hmp
            clear hnb hma hmp
            go_wp2_with (first
              | (refine wpl_loadA (vs := refCells V) rfl (.tmp 13) (by rfl) agg41 (by rfl) (refCells_len _) (St.pick 1 s7).rowAll ?_)
              | (go_at_call 20; refine do_c (V := V) (D := D) (s7.perm [2, 2, 2]) HV.out ?_; rw [HE.out.1, HE.out.2]; rintro a8 m8 c8 w8 s8)
              | (refine wpl_allocA rfl rfl zero41 s8 ?_; rintro X w9 s9)
              | (refine wpl_storeA (vs := refCells V') rfl (.tmp 19) (.tmp 78) (by rfl) agg41 (by rfl) (by rfl) (refCells_len _) (refCells_one _) s9 rfl ?_; rintro wA sA)
              | (refine wpl_loadA (vs := refCells V') rfl (.tmp 19) (by rfl) agg41 (by rfl) (refCells_len _) sA.rowAll ?_)
              | (refine wpl_storeA (vs := refCells V') rfl (.tmp 13) (.tmp 81) (by rfl) agg41 (by rfl) (by rfl) (refCells_len _) (refCells_one _) (St.pick 5 sA) (refCells_len _) ?_; rintro wB sB; obtain ⟨z0, z1, z2⟩ := box3 (St.pick 5 sB); have hm8 := ivs_len (RdH.rd (St.pick 4 sB)))
              | (go_at_call 18; refine rnode_c ?_; rw [HNB.out])
              | (refine wpl_loadAG (vs := refCells V') (by rfl) (.tmp 13) (by rfl) agg41 (by rfl) (refCells_len _) sB.rowAll ?_)
              | (go_at_call 21; refine is_c (St.pick 2 sB) HV'.out ?_; rintro wC sC; obtain ⟨v0, v1, v2⟩ := box3 (St.pick 5 sC))
              | (go_at_call 22; refine left_c (St.pick 3 sC) ?_; rw [hm8]))
            go_at_call 9
            refine isActive_v sC HMA.out ?_
            go_wp2_with (go_at_call 13; refine isPassive_v sC HMP.out ?_)
            go_roundw
            case rel => exact ⟨k + 1, V', D', a8, m8, c8, by omega, by go_num, rfl, hid ⟨HV'.out, sC.sel [1, 0, 1, 1]⟩⟩
            case measure => simp [intOf]; omega
        · have hke : k = nl := by omega
          subst hke
          go_wp2
          exact HK.out _ sr.below
    · have HN := hid hnew
      clear hnew
      go_enter Try.func5, Try.ntmps5
      go_wp2_with (first
        | (go_at_call 6; refine speaks_c s0 ?_; rintro w1 s1)
        | (go_at_call 7; refine views_new_no HN.out ?_)
        | (go_at_call 19; refine rnew_no s1 HN.out ?_; rintro w3 s3)
        | (refine wpl_allocA rfl rfl zero41 s3 ?_; rintro T w4 s4)
        | (refine wpl_storeA (vs := none41) rfl (.tmp 13) (.tmp 48) (by rfl) agg41 (by rfl) (by rfl) rfl none41_one s4 rfl ?_; rintro w5 s5))
      exact HK.out _ s5.below
  · by_cases h60 : 60 < nl
    · clear hg
      go_enter Try.func5, Try.ntmps5
      go_wp2_with (go_at_call 6; first
        | (refine speaks_c s1 ?_; rintro w2 s2)
        | (refine speaks_c s0 ?_; rintro w1 s1))
      exact HK.out _ s2.below
    · have h100 : 100 < nd := by omega
      have h60' : nl ≤ 60 := by omega
      clear hg h60
      go_enter Try.func5, Try.ntmps5
      go_wp2_with (go_at_call 6; first
        | (refine speaks_c s1 ?_; rintro w2 s2)
        | (refine speaks_c s0 ?_; rintro w1 s1))
      exact HK.out _ s2.below

end Go.Proofs.Ytnibgchgcggfbac
