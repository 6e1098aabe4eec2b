/- RepsM: several texts, joined. The replica: Merge. Printed by mkRepM.py. -/
import Derived.Test.YtggbeedghblakaaGreatDoorRepK
import Derived.Test.YtggbeedghblakaaGreatDoorRepJ
namespace Go.Proofs.YtggbeedghblakaaGreatDoor
open Go.RowKit Go.Qd RepV

section
attribute [local go_sem ↓] execOp_ldAny
variable {W w : World} {R : List HP} {post : Ending → World → Prop} {A : RAd} {r : RepV}

set_option maxRecDepth 100000 in
set_option maxHeartbeats 4000000 in
theorem merge_chk {e : EnV} (hc : ¬ checkE e = 0) (st : St W w (RepA A r :: R))
    (K : ∀ w', St W w' (RepA A r :: R) → post (.returned (.tuple #[.int .i64 0, .agg EnV.zero.cells.toArray, .int .i64 (checkE e)])) w') :
    Calls Tryz.prog 16 #[.pointer (some ⟨A.p, 0, none⟩), .agg e.cells.toArray] w post := by
  obtain ⟨c, hcc⟩ : ∃ c, checkE e = c := ⟨_, rfl⟩
  rw [hcc] at K hc
  have HC := hid hcc
  have h2 : (c != 0) = true := by simp [hc]
  clear hcc hc
  have HK := hid K; clear K
  go_enter Tryz.func16, Tryz.ntmps16
  go_wp2_with (first
    | (refine wpl_boxA (vs := e.cells) rfl (.tmp 1) rfl rfl st ?_; rintro T w1 s1)
    | (refine wpl_allocA rfl rfl zero_en s1 ?_; rintro V w2 s2; have gT := run_loadG agg_en (vs := e.cells) rfl (St.pick 1 s2).rowAll)
    | (go_at_call 68; refine check_c s2 ?_; rintro w4 s4; rw [HC.out])
    | (refine wpl_build rfl rfl (v := .agg EnV.zero.cells.toArray) (by kernel_rfl) ?_)
    | (refine wpl_storeA (vs := EnV.zero.cells) rfl (.tmp 5) (.tmp 15) (by rfl) agg_en (by rfl) (by rfl) rfl (env_one _) s4 rfl ?_; rintro wz sz))
  have hL := run_loadA agg_en (vs := EnV.zero.cells) rfl sz.rowAll
  exact bodyPost_ret (v := .tuple #[.int .i64 0, .agg EnV.zero.cells.toArray, .int .i64 c]) (by simp [results, Tryz.results16, asAddr, hL]) rfl (HK.out _ (sz.dropN 2))

/-- An entry comes in. -/
theorem merge_c {e : EnV} (h : RepOK r) (st : St W w (RepA A r :: R))
    (K : ∀ w', St W w' (RepA A (r.merge e) :: R) → post (.returned (.tuple #[.int .i64 (r.mergeK e), .agg (r.mergeX e).cells.toArray, .int .i64 (r.mergeW e)])) w') :
    Calls Tryz.prog 16 #[.pointer (some ⟨A.p, 0, none⟩), .agg e.cells.toArray] w post := by
  unfold RepV.merge RepV.mergeK RepV.mergeX RepV.mergeW at K
  by_cases hc : checkE e = 0
  · have hc' : ¬ checkE e ≠ 0 := fun x => x hc
    simp only [if_neg hc'] at K
    obtain ⟨q, hq⟩ : ∃ q, r.see e.ac e.az = q := ⟨_, rfl⟩
    rw [hq] at K
    unfold RepV.mergeIn RepV.mergeInK RepV.mergeInX RepV.mergeInW at K
    cases hb : thas q.tab e.key with
    | false =>
      cases hp : (e.dead && (decide (0 < q.t1) && decide (q.t1 - 1 ≤ e.age))) with
      | true =>
        have hw : q.way e = 1 := by unfold RepV.way; rw [hb, hp]; rfl
        simp only [hw] at K
        have hp2 := hp
        simp only [Bool.and_eq_true] at hp2
        exact merge_aged_false h hc hq rfl hb hp2.1 hp2.2.1 hp2.2.2 st K
      | false =>
        cases hr : q.roomB e.key with
        | false =>
          have hw : q.way e = 2 := by unfold RepV.way; rw [hb, hp, hr]; rfl
          simp only [hw] at K
          exact merge_full_false h hc hq rfl hb hp hr st K
        | true =>
          cases ho : q.overB e with
          | true =>
            have hw : q.way e = 3 := by unfold RepV.way; rw [hb, hp, hr, ho]; rfl
            simp only [hw] at K
            exact merge_wake_false h hc hq rfl hb hp hr ho st K
          | false =>
            have hw : q.way e = 4 := by unfold RepV.way; rw [hb, hp, hr, ho]; rfl
            simp only [hw] at K
            by_cases hs : q.setW (q.aged e (tget q.tab e.key)) = 0
            · simp only [if_pos hs] at K
              exact merge_took_false h hc hq rfl hb hp hr ho hs st (by intro w' s; have := K w' s; rwa [hs] at this)
            · simp only [if_neg hs] at K
              exact merge_bad_false h hc hq rfl hb hp hr ho hs st K
    | true =>
      cases hn : newerB e (tget q.tab e.key) with
      | false =>
        have hw : q.way e = 0 := by unfold RepV.way; rw [hb, hn]; rfl
        simp only [hw] at K
        cases hd : (tget q.tab e.key).dead with
        | false =>
          have hs : q.stay e = q := by unfold RepV.stay; rw [hd]; rfl
          rw [hs] at K
          exact merge_old1 h hc hq rfl hb hn hd st K
        | true =>
          cases hd2 : e.dead with
          | false =>
            have hs : q.stay e = q := by unfold RepV.stay; rw [hd, hd2]; rfl
            rw [hs] at K
            exact merge_old2 h hc hq rfl hb hn hd hd2 st K
          | true => exact merge_stay h hc hq rfl hb hn hd hd2 st K
      | true =>
        cases hp : (e.dead && (decide (0 < q.t1) && decide (q.t1 - 1 ≤ e.age))) with
        | true =>
          have hw : q.way e = 1 := by unfold RepV.way; rw [hb, hn, hp]; rfl
          simp only [hw] at K
          have hp2 := hp
          simp only [Bool.and_eq_true] at hp2
          exact merge_aged_true h hc hq rfl hb hn hp2.1 hp2.2.1 hp2.2.2 st K
        | false =>
          cases hr : q.roomB e.key with
          | false =>
            have hw : q.way e = 2 := by unfold RepV.way; rw [hb, hn, hp, hr]; rfl
            simp only [hw] at K
            exact merge_full_true h hc hq rfl hb hn hp hr st K
          | true =>
            cases ho : q.overB e with
            | true =>
              have hw : q.way e = 3 := by unfold RepV.way; rw [hb, hn, hp, hr, ho]; rfl
              simp only [hw] at K
              exact merge_wake_true h hc hq rfl hb hn hp hr ho st K
            | false =>
              have hw : q.way e = 4 := by unfold RepV.way; rw [hb, hn, hp, hr, ho]; rfl
              simp only [hw] at K
              by_cases hs : q.setW (q.aged e (tget q.tab e.key)) = 0
              · simp only [if_pos hs] at K
                exact merge_took_true h hc hq rfl hb hn hp hr ho hs st (by intro w' s; have := K w' s; rwa [hs] at this)
              · simp only [if_neg hs] at K
                exact merge_bad_true h hc hq rfl hb hn hp hr ho hs st K
  · have hc' : checkE e ≠ 0 := hc
    simp only [if_pos hc'] at K
    exact merge_chk hc st K
end
end Go.Proofs.YtggbeedghblakaaGreatDoor

/- The replica's invariants stay: Merge, Put. -/
namespace Go.Proofs.YtggbeedghblakaaGreatDoor
open Go.RowKit Go.Qd RepV

namespace RepOK
variable {r : RepV}
theorem stay (h : RepOK r) (e : EnV) (hh : thas r.tab e.key = true) : RepOK (r.stay e) := by
  unfold RepV.stay
  split
  · have hk := tget_key h.tab h.key hh
    have hl := tput_len h.tab e.key { tget r.tab e.key with age := r.agedV e (tget r.tab e.key) }
    rw [if_pos hh] at hl
    refine ⟨putK_srt kLt_ord h.tab _, fun p hp => ?_, ?_, h.room, h.own, h.ownT, h.ownL, h.ix, ?_, fun k => ?_, h.gr, h.grK, h.grL, h.sum, h.site, h.cnt, h.d, h.t1⟩
    · rcases (mem_putK kLt_ord).1 hp with rfl | ⟨hp, _⟩
      · exact hk.symm
      · exact h.key p hp
    · show (((tput r.tab e.key _).length : Nat) : Int) ≤ r.room
      rw [hl]; exact h.len
    · show r.ix.length = (tput r.tab e.key _).length
      rw [hl]; exact h.ixN
    · show (ixGet r.ix k).isSome = thas (tput r.tab e.key _) k
      have h5 : thas (tput r.tab e.key { tget r.tab e.key with age := r.agedV e (tget r.tab e.key) }) k = (decide (e.key = k) || thas r.tab k) := hasK_put kLt_ord h.tab (e.key, _) k
      rw [h5, h.ixT k]
      by_cases hk : e.key = k
      · rw [← hk, hh]; simp
      · rw [decide_eq_false hk]; rfl
  · exact h
theorem put (h : RepOK r) (k v : ByteArray) : RepOK (r.put k v) := by
  unfold RepV.put
  split
  · exact h
  · exact h.write _ _
theorem mergeIn (h : RepOK r) (e : EnV) : RepOK (r.mergeIn e) := by
  unfold RepV.mergeIn
  split
  · rename_i hw
    refine h.stay e ?_
    unfold RepV.way at hw
    cases hb : thas r.tab e.key with
    | true => rfl
    | false =>
      rw [hb] at hw
      simp only [Bool.false_and, Bool.false_eq_true, if_false] at hw
      split at hw
      · cases hw
      · split at hw
        · cases hw
        · split at hw <;> cases hw
  · exact h
  · exact h
  · exact h.woken _
  · exact h.set _
theorem merge (h : RepOK r) (e : EnV) : RepOK (r.merge e) := by
  unfold RepV.merge
  split
  · exact h
  · exact (h.see _ _).mergeIn e
end RepOK
end Go.Proofs.YtggbeedghblakaaGreatDoor
