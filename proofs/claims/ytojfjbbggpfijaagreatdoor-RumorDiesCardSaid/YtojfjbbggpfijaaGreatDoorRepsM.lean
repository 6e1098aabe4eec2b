/- RepsM: several texts, joined. A table's keys and entries, gone through: All; Entries; the graves' All. -/
import Derived.Test.YtojfjbbggpfijaaGreatDoorTabX
import Derived.Test.YtojfjbbggpfijaaGreatDoorAggs
import Derived.Test.YtojfjbbggpfijaaGreatDoorMarks
import Derived.Shelf.Abstract
import Derived.Test.YtojfjbbggpfijaaGreatDoorRepK
import Derived.Test.YtojfjbbggpfijaaGreatDoorFirsts
namespace Go.Proofs.YtojfjbbggpfijaaGreatDoor
open Go.RowKit Go.Shelf Go.Qd

attribute [local go_sem] Oper.semAt_some

def keV (x : KE) : Array Value := #[.string x.1, .agg x.2.cells.toArray]
theorem zero_pe (w : World) : (zeroValue 198).run Tryz.prog w = .ok (.agg (peC (ByteArray.empty, EnV.zero)).toArray) w := by kernel_rfl
theorem take_snoc {α : Type} {l : List α} {k : Nat} (h : k < l.length) : l.take k ++ [l[k]] = l.take (k + 1) := (List.take_succ_eq_append_getElem h).symm

def bsG (t : TypeId) (x : Value) : Sem Value := Instr.buildSlice t 1 #[(0, x)]
theorem execOp_bsE (ρ : Operand → Value) (dst : Option Tmp) (a : Operand) (ty : TypeId) (pos : String) (after : Array Edge) (guard : Option (Nat × Bool)) :
    execOp ρ { dst, op := .buildSlice 54 1 #[(0, a)], type := ty, pos, after, guard } = (do pure (.value (← bsG 54 (ρ a)))) := by simp [execOp, bsG]
theorem run_bsE (x : EnV) (w : World) : (bsG 54 (.agg x.cells.toArray)).run Tryz.prog w = .ok (.slice (some ⟨w.heap.size, 0, none⟩) 1 1) (w.alloc (.cells x.cells.toArray 67)) := by kernel_rfl
theorem execOp_stEn (ρ : Operand → Value) (dst : Option Tmp) (a x : Operand) (ty : TypeId) (pos : String) (after : Array Edge) (guard : Option (Nat × Bool)) :
    execOp ρ { dst, op := .store 67 a x, type := ty, pos, after, guard } = (do storeG 67 (ρ a) (ρ x); pure .skip) := rfl
theorem infoEn : (Tryz.prog.info? 67).map (fun i => (i.zero, i.size, i.bytes)) = some (some (.agg EnV.zero.cells.toArray), 9, 88) := by kernel_rfl
def ke2 (l : List KE) : List Value := enC (l.map (·.2))
theorem ke2_len (l : List KE) : (ke2 l).length = l.length * 9 := by
  unfold ke2
  have : ∀ l : List EnV, (enC l).length = l.length * 9 := fun l => by
    induction l with
    | nil => rfl
    | cons x l ih => show (x.cells ++ enC l).length = _; rw [List.length_append, ih, List.length_cons]; simp [EnV.cells]; omega
  rw [this, List.length_map]
theorem ke2_snoc (l : List KE) (x : KE) : ke2 (l ++ [x]) = ke2 l ++ x.2.cells := by simp [ke2, enC]

section
attribute [local go_sem ↓] execOp_bsE execOp_stEn
attribute [local go_sem] run_bsE
end
end Go.Proofs.YtojfjbbggpfijaaGreatDoor

/- The replica: Merge. Printed by mkRepM.py. -/
namespace Go.Proofs.YtojfjbbggpfijaaGreatDoor
open Go.RowKit Go.Qd RepV

section
attribute [local go_sem ↓] execOp_ldAny
variable {W w : World} {R : List HP} {post : Ending → World → Prop} {A : RAd} {r : RepV}

set_option maxRecDepth 100000 in
set_option maxHeartbeats 4000000 in
theorem merge_chk {e : EnV} (hc : ¬ checkE e = 0) (st : St W w (RepA A r :: R))
    (K : ∀ w', St W w' (RepA A r :: R) → post (.returned (.tuple #[.int .i64 0, .agg EnV.zero.cells.toArray, .int .i64 (checkE e)])) w') :
    Calls Tryz.prog 90 #[.pointer (some ⟨A.p, 0, none⟩), .agg e.cells.toArray] w post := by
  obtain ⟨c, hcc⟩ : ∃ c, checkE e = c := ⟨_, rfl⟩
  rw [hcc] at K hc
  have HC := hid hcc
  have h2 : (c != 0) = true := by simp [hc]
  clear hcc hc
  have HK := hid K; clear K
  go_enter Tryz.func90, Tryz.ntmps90
  go_wp2_with (first
    | (refine wpl_boxA (vs := e.cells) rfl (.tmp 1) rfl rfl st ?_; rintro T w1 s1)
    | (refine wpl_allocA rfl rfl zero_en s1 ?_; rintro V w2 s2; have gT := run_loadG agg_en (vs := e.cells) rfl (St.pick 1 s2).rowAll)
    | (go_at_call 50; refine check_c s2 ?_; rintro w4 s4; rw [HC.out])
    | (refine wpl_build rfl rfl (v := .agg EnV.zero.cells.toArray) (by kernel_rfl) ?_)
    | (refine wpl_storeA (vs := EnV.zero.cells) rfl (.tmp 5) (.tmp 15) (by rfl) agg_en (by rfl) (by rfl) rfl (env_one _) s4 rfl ?_; rintro wz sz))
  have hL := run_loadA agg_en (vs := EnV.zero.cells) rfl sz.rowAll
  exact bodyPost_ret (v := .tuple #[.int .i64 0, .agg EnV.zero.cells.toArray, .int .i64 c]) (by simp [results, Tryz.results90, asAddr, hL]) rfl (HK.out _ (sz.dropN 2))

/-- An entry comes in. -/
theorem merge_c {e : EnV} (h : RepOK r) (st : St W w (RepA A r :: R))
    (K : ∀ w', St W w' (RepA A (r.merge e) :: R) → post (.returned (.tuple #[.int .i64 (r.mergeK e), .agg (r.mergeX e).cells.toArray, .int .i64 (r.mergeW e)])) w') :
    Calls Tryz.prog 90 #[.pointer (some ⟨A.p, 0, none⟩), .agg e.cells.toArray] w post := by
  unfold RepV.merge RepV.mergeK RepV.mergeX RepV.mergeW at K
  by_cases hc : checkE e = 0
  · have hc' : ¬ checkE e ≠ 0 := fun x => x hc
    simp only [if_neg hc'] at K
    obtain ⟨q, hq⟩ : ∃ q, r.see e.ac e.az = q := ⟨_, rfl⟩
    rw [hq] at K
    unfold RepV.mergeIn RepV.mergeInK RepV.mergeInX RepV.mergeInW at K
    cases hb : thas q.tab e.key with
    | false =>
      cases hp : (e.dead && (decide (0 < q.t1) && decide (q.t1 - 1 ≤ e.age))) with
      | true =>
        have hw : q.way e = 1 := by unfold RepV.way; rw [hb, hp]; rfl
        simp only [hw] at K
        have hp2 := hp
        simp only [Bool.and_eq_true] at hp2
        exact merge_aged_false h hc hq rfl hb hp2.1 hp2.2.1 hp2.2.2 st K
      | false =>
        cases hr : q.roomB e.key with
        | false =>
          have hw : q.way e = 2 := by unfold RepV.way; rw [hb, hp, hr]; rfl
          simp only [hw] at K
          exact merge_full_false h hc hq rfl hb hp hr st K
        | true =>
          cases ho : q.overB e with
          | true =>
            have hw : q.way e = 3 := by unfold RepV.way; rw [hb, hp, hr, ho]; rfl
            simp only [hw] at K
            exact merge_wake_false h hc hq rfl hb hp hr ho st K
          | false =>
            have hw : q.way e = 4 := by unfold RepV.way; rw [hb, hp, hr, ho]; rfl
            simp only [hw] at K
            by_cases hs : q.setW (q.aged e (tget q.tab e.key)) = 0
            · simp only [if_pos hs] at K
              exact merge_took_false h hc hq rfl hb hp hr ho hs st (by intro w' s; have := K w' s; rwa [hs] at this)
            · simp only [if_neg hs] at K
              exact merge_bad_false h hc hq rfl hb hp hr ho hs st K
    | true =>
      cases hn : newerB e (tget q.tab e.key) with
      | false =>
        have hw : q.way e = 0 := by unfold RepV.way; rw [hb, hn]; rfl
        simp only [hw] at K
        cases hd : (tget q.tab e.key).dead with
        | false =>
          have hs : q.stay e = q := by unfold RepV.stay; rw [hd]; rfl
          rw [hs] at K
          exact merge_old1 h hc hq rfl hb hn hd st K
        | true =>
          cases hd2 : e.dead with
          | false =>
            have hs : q.stay e = q := by unfold RepV.stay; rw [hd, hd2]; rfl
            rw [hs] at K
            exact merge_old2 h hc hq rfl hb hn hd hd2 st K
          | true => exact merge_stay h hc hq rfl hb hn hd hd2 st K
      | true =>
        cases hp : (e.dead && (decide (0 < q.t1) && decide (q.t1 - 1 ≤ e.age))) with
        | true =>
          have hw : q.way e = 1 := by unfold RepV.way; rw [hb, hn, hp]; rfl
          simp only [hw] at K
          have hp2 := hp
          simp only [Bool.and_eq_true] at hp2
          exact merge_aged_true h hc hq rfl hb hn hp2.1 hp2.2.1 hp2.2.2 st K
        | false =>
          cases hr : q.roomB e.key with
          | false =>
            have hw : q.way e = 2 := by unfold RepV.way; rw [hb, hn, hp, hr]; rfl
            simp only [hw] at K
            exact merge_full_true h hc hq rfl hb hn hp hr st K
          | true =>
            cases ho : q.overB e with
            | true =>
              have hw : q.way e = 3 := by unfold RepV.way; rw [hb, hn, hp, hr, ho]; rfl
              simp only [hw] at K
              exact merge_wake_true h hc hq rfl hb hn hp hr ho st K
            | false =>
              have hw : q.way e = 4 := by unfold RepV.way; rw [hb, hn, hp, hr, ho]; rfl
              simp only [hw] at K
              by_cases hs : q.setW (q.aged e (tget q.tab e.key)) = 0
              · simp only [if_pos hs] at K
                exact merge_took_true h hc hq rfl hb hn hp hr ho hs st (by intro w' s; have := K w' s; rwa [hs] at this)
              · simp only [if_neg hs] at K
                exact merge_bad_true h hc hq rfl hb hn hp hr ho hs st K
  · have hc' : checkE e ≠ 0 := hc
    simp only [if_pos hc'] at K
    exact merge_chk hc st K
end
end Go.Proofs.YtojfjbbggpfijaaGreatDoor

/- The replica's invariants stay: Merge, Put. -/
namespace Go.Proofs.YtojfjbbggpfijaaGreatDoor
open Go.RowKit Go.Qd RepV

namespace RepOK
variable {r : RepV}
theorem stay (h : RepOK r) (e : EnV) (hh : thas r.tab e.key = true) : RepOK (r.stay e) := by
  unfold RepV.stay
  split
  · have hk := tget_key h.tab h.key hh
    have hl := tput_len h.tab e.key { tget r.tab e.key with age := r.agedV e (tget r.tab e.key) }
    rw [if_pos hh] at hl
    refine ⟨putK_srt kLt_ord h.tab _, fun p hp => ?_, ?_, h.room, h.own, h.ownT, h.ownL, h.ix, ?_, fun k => ?_, h.gr, h.grK, h.grL, h.sum, h.site, h.cnt, h.d, h.t1⟩
    · rcases (mem_putK kLt_ord).1 hp with rfl | ⟨hp, _⟩
      · exact hk.symm
      · exact h.key p hp
    · show (((tput r.tab e.key _).length : Nat) : Int) ≤ r.room
      rw [hl]; exact h.len
    · show r.ix.length = (tput r.tab e.key _).length
      rw [hl]; exact h.ixN
    · show (ixGet r.ix k).isSome = thas (tput r.tab e.key _) k
      have h5 : thas (tput r.tab e.key { tget r.tab e.key with age := r.agedV e (tget r.tab e.key) }) k = (decide (e.key = k) || thas r.tab k) := hasK_put kLt_ord h.tab (e.key, _) k
      rw [h5, h.ixT k]
      by_cases hk : e.key = k
      · rw [← hk, hh]; simp
      · rw [decide_eq_false hk]; rfl
  · exact h
theorem put (h : RepOK r) (k v : ByteArray) : RepOK (r.put k v) := by
  unfold RepV.put
  split
  · exact h
  · exact h.write _ _
theorem mergeIn (h : RepOK r) (e : EnV) : RepOK (r.mergeIn e) := by
  unfold RepV.mergeIn
  split
  · rename_i hw
    refine h.stay e ?_
    unfold RepV.way at hw
    cases hb : thas r.tab e.key with
    | true => rfl
    | false =>
      rw [hb] at hw
      simp only [Bool.false_and, Bool.false_eq_true, if_false] at hw
      split at hw
      · cases hw
      · split at hw
        · cases hw
        · split at hw <;> cases hw
  · exact h
  · exact h
  · exact h.woken _
  · exact h.set _
theorem merge (h : RepOK r) (e : EnV) : RepOK (r.merge e) := by
  unfold RepV.merge
  split
  · exact h
  · exact (h.see _ _).mergeIn e
end RepOK
end Go.Proofs.YtojfjbbggpfijaaGreatDoor

/- The replica's Entry, Entries, Sum, Now. -/
namespace Go.Proofs.YtojfjbbggpfijaaGreatDoor
open Go.RowKit Go.Qd RepV

section
attribute [local go_sem ↓] execOp_ldAny
variable {W w : World} {R : List HP} {post : Ending → World → Prop} {A : RAd} {r : RepV}

set_option maxRecDepth 100000 in
set_option maxHeartbeats 2000000 in
theorem entry_c {k : ByteArray} (h : RepOK r) (st : St W w (RepA A r :: R)) (K : ∀ w', St W w' (RepA A r :: R) → post (.returned (.tuple #[.agg (tget r.tab k).cells.toArray, .bool (thas r.tab k)])) w') :
    Calls Tryz.prog 15 #[.pointer (some ⟨A.p, 0, none⟩), .string k] w post := by
  have HK := hid K; clear K
  have hl : r.tab.length ≤ 4096 := by have := h.len; have := h.room; omega
  have HH := hid h; have HL := hid hl
  clear h hl
  obtain ⟨x, hx⟩ : ∃ x, tget r.tab k = x := ⟨_, rfl⟩
  obtain ⟨b, hb⟩ : ∃ b, thas r.tab k = b := ⟨_, rfl⟩
  have HX := hid hx; have HB := hid hb
  rw [hx, hb] at HK
  clear hx hb
  go_enter Tryz.func15, Tryz.ntmps15
  go_wp2_with (first
    | (refine wpl_allocA rfl rfl zero_en st ?_; rintro T w1 s1; have l7 := (repLd (St.pick 1 s1)).2.1)
    | (go_at_call 44; refine getE_c HH.out.tab HL.out (St.pick 2 (RepA.open.1 (St.pick 1 s1))) ?_; rintro w3 s3; rw [HX.out, HB.out]; have s4 : St W w3 (RepA A r :: row T 0 EnV.zero.cells :: R) := RepA.open.2 (s3.perm [1, 1]))
    | (refine wpl_storeA (vs := x.cells) rfl (.tmp 4) (.tmp 12) (by rfl) agg_en (by rfl) (by rfl) rfl (env_one _) (St.pick 1 s4) rfl ?_; rintro w5 s5))
  have hL := run_loadA agg_en (vs := x.cells) rfl s5.rowAll
  exact bodyPost_ret (v := .tuple #[.agg x.cells.toArray, .bool b]) (by simp [results, Tryz.results15, asAddr, hL]) rfl (HK.out _ s5.drop)

theorem tabE_rd {tb : Nat} {room : Int} {l : List KE} (s : St W w (TabE tb 0 room l :: R)) : ∃ ao n c, w.cell? ⟨tb, 1, none⟩ = some (.slice ao n c) ∧ RdS w 10 ao n c (tabC l) := by
  obtain ⟨ao, n, c, s⟩ := TabE.open s
  obtain ⟨_, h1, _⟩ := rowTwo s
  exact ⟨ao, n, c, by simpa using h1, OwnS.rd (St.pick 1 s)⟩
end
end Go.Proofs.YtojfjbbggpfijaaGreatDoor
