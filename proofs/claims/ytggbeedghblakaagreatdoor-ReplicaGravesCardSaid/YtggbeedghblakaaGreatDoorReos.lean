/- Reos: several texts, joined. The replica that a disk has, opened anew, after whatever came about. -/
import Derived.Test.YtggbeedghblakaaGreatDoorJrnsR
import Derived.Test.YtggbeedghblakaaGreatDoorRecA
import Derived.Test.YtggbeedghblakaaGreatDoorLogs
import Derived.Test.YtggbeedghblakaaGreatDoorLaws
namespace Go.Proofs.YtggbeedghblakaaGreatDoor
open Go.RowKit Go.Qd RepV

/-- A replica's options are these. -/
def OfOpt (o : OptV) (site : Int) (r : RepV) : Prop := r.nodes = o.nodes ∧ r.quota = o.quota ∧ r.retain = o.retain ∧ r.t1 = o.t1 ∧ r.t2 = o.t2 ∧ r.site = site

theorem recs_same (es : List EnV) : recsB es = recsL (es.map encE) := by simp [recsB, recsL, List.map_map, Function.comp_def]

section
variable {W w : World} {R : List HP} {post : Ending → World → Prop}
/-- The replica is let be; its disk is opened anew. If that fails, it is as it was. -/
theorem reopen_c {o : OptV} {site : Int} {d : Nat} {r : RepV} {es : List EnV} {A : RAd} (hd : A.d = d) (h : BInv r es) (hc : o.check = 0) (ho : OfOpt o site r) (hs : 0 ≤ site ∧ site < o.nodes) (st : St W w (RepA A r :: R))
    (K1 : ∀ q A' w', r.blank.recAll es = some q → A'.d = d → St W w' (RepA A' q :: R) → post (.returned (.tuple #[.pointer (some ⟨A'.p, 0, none⟩), .int .i64 0])) w')
    (K2 : ∀ w', r.blank.recAll es = none → St W w' (RepA A r :: R) → post (.returned (.tuple #[.pointer none, .int .i64 12])) w') :
    Calls Tryz.prog 13 #[.int .i64 site, .agg o.cells.toArray, .pointer (some ⟨d, 0, none⟩)] w post := by
  subst hd
  obtain ⟨h1, h2, h3, h4, h5, h6⟩ := ho
  have e : RepV.fresh o.nodes o.quota o.retain o.t1 o.t2 site r.d = r.blank := by unfold RepV.blank; rw [h1, h2, h3, h4, h5, h6]
  have hj : JOpens A.d r.d r.d (es.map encE) := jopensL h.c.ok.d h.d.on (by rw [h.d.b, recs_same]) (fun x hx => by
    obtain ⟨y, hy, rfl⟩ := List.mem_map.1 hx
    obtain ⟨l1, l2⟩ := checkE_len (h.e y hy).1
    omega)
  refine open_g (D' := r.d) (es := es) hc hs h.c.ok.d hj (fun e he => recovers (h.e e he).1) ((RepA.open.1 st).perm [8]) (fun q A' w' hq hd s => ?_) (fun w' hq s => ?_)
  · rw [e] at hq
    exact K1 q A' w' hq hd ((s.pick 0).perm [1, 1, 1, 1, 1, 1, 1, 1] |>.dropN 8)
  · rw [e] at hq
    exact K2 w' hq (RepA.open.2 (s.perm [1, 1, 1, 1, 1, 1, 1, 1]))
end

/-! Keys, noted. -/
def strC (ks : List ByteArray) : List Value := ks.map Value.string
theorem strC_one (ks : List ByteArray) : ∀ u ∈ strC ks, u.oneCell' = true := fun u hu => by
  obtain ⟨x, _, rfl⟩ := List.mem_map.1 hu; rfl
theorem strC_ln {w : World} {ao : Option Addr} {n c : Nat} {ks : List ByteArray} (rd : RdS w 1 ao n c (strC ks)) : ks.length = n := by have := rd.len; unfold strC at this; simpa using this
end Go.Proofs.YtggbeedghblakaaGreatDoor

/- No stamp twice, in plain Lean: the law's invariant between acts. -/
namespace Go.Proofs.YtggbeedghblakaaGreatDoor
open Go.RowKit Go.Qd RepV

def hasT (ks : List ByteArray) (k : ByteArray) : Bool := ks.any fun x => decide (x = k)
theorem hasT_iff {ks : List ByteArray} {k : ByteArray} : hasT ks k = true ↔ k ∈ ks := by simp [hasT]
def noteL (ks : List ByteArray) (k : ByteArray) : List ByteArray := if hasT ks k = true then ks else ks ++ [k]
theorem noteL_has (ks : List ByteArray) (k : ByteArray) : k ∈ noteL ks k := by
  unfold noteL; split
  · rename_i h; exact hasT_iff.1 h
  · simp
theorem noteL_sub {ks : List ByteArray} {k x : ByteArray} (h : x ∈ ks) : x ∈ noteL ks k := by
  unfold noteL; split
  · exact h
  · simp [h]

/-- What is so between acts: the keys of all that was set down are noted, and no stamp that was told is behind what was set down. -/
structure SInv (r0 r : RepV) (last : Int) (ks : List ByteArray) : Prop where
  es : ∃ es, BInv r es ∧ (last = 0 ∨ ∃ e ∈ es, last ≤ e.ac) ∧ ∀ e ∈ es, e.key ∈ ks
  l0 : 0 ≤ last
  lc : last ≤ r.cnt
  c : SameC r0 r

namespace SInv
variable {r0 r : RepV} {last : Int} {ks : List ByteArray}
theorem ok (h : SInv r0 r last ks) : RepOK r := let ⟨_, h1, _⟩ := h.es; h1.c.ok
theorem g (h : SInv r0 r last ks) : GInv r := let ⟨_, h1, _⟩ := h.es; h1.c.g
theorem gr (h : SInv r0 r last ks) : GrInv r := let ⟨_, h1, _⟩ := h.es; h1.c.gr
/-- An act that sets nothing down. -/
theorem keep {q : RepV} (h : SInv r0 r last ks) (hb : ∀ es, BInv r es → BInv q es ∧ r.cnt ≤ q.cnt) (hc : SameC r q) : SInv r0 q last ks := by
  obtain ⟨es, h1, h2, h3⟩ := h.es
  obtain ⟨b1, b2⟩ := hb es h1
  exact ⟨⟨es, b1, h2, h3⟩, h.l0, Int.le_trans h.lc b2, h.c.trans hc⟩
/-- An act that sets an entry down. -/
theorem more {q : RepV} {x : EnV} {k : ByteArray} {l2 : Int} (h : SInv r0 r last ks) (hb : ∀ es, BInv r es → BInv q (es ++ [x]) ∧ r.cnt ≤ q.cnt) (hc : SameC r q) (hk : x.key ∈ ks ∨ x.key = k) (hl : l2 = last ∨ (l2 = x.ac ∧ l2 = q.cnt)) (hp : last ≤ l2) :
    SInv r0 q l2 (noteL ks k) := by
  obtain ⟨es, h1, h2, h3⟩ := h.es
  obtain ⟨b1, b2⟩ := hb es h1
  refine ⟨⟨es ++ [x], b1, ?_, fun e he => ?_⟩, Int.le_trans h.l0 hp, ?_, h.c.trans hc⟩
  · rcases hl with rfl | ⟨g, _⟩
    · rcases h2 with g | ⟨e, g1, g2⟩
      · exact .inl g
      · exact .inr ⟨e, by simp [g1], g2⟩
    · exact .inr ⟨x, by simp, Int.le_of_eq g⟩
  · rcases List.mem_append.1 he with g | g
    · exact noteL_sub (h3 e g)
    · rw [List.mem_singleton] at g; subst g
      rcases hk with g | g
      · exact noteL_sub g
      · rw [g]; exact noteL_has _ _
  · rcases hl with rfl | ⟨_, g⟩
    · exact Int.le_trans h.lc b2
    · exact Int.le_of_eq g
theorem note (h : SInv r0 r last ks) (k : ByteArray) : SInv r0 r last (noteL ks k) := by
  obtain ⟨es, h1, h2, h3⟩ := h.es
  exact ⟨⟨es, h1, h2, fun e he => noteL_sub (h3 e he)⟩, h.l0, h.lc, h.c⟩

theorem put_no (h : SInv r0 r last ks) {k v : ByteArray} (hw : r.putW k v ≠ 0) : SInv r0 (r.put k v) last ks :=
  h.keep (fun _ hb => ⟨(hb.put k v).2.1 hw, (hb.put k v).2.2⟩) (SameC.put _ _ _)
/-- A key is put: its stamp is later than the last one. -/
theorem put_ok (h : SInv r0 r last ks) {k v : ByteArray} (hw : r.putW k v = 0) : SInv r0 (r.put k v) (r.cnt + 1) (noteL ks k) ∧ r.putX k v = putE k v (r.cnt + 1) r.site ∧ last < r.cnt + 1 ∧ r.cnt + 1 ≤ 4294967295 := by
  obtain ⟨es, h1, _⟩ := h.es
  obtain ⟨p1, _, p3, p4⟩ := (h1.put k v).1 hw
  have hl := h.lc
  refine ⟨h.more (x := r.putX k v) (fun es hb => ⟨((hb.put k v).1 hw).2.1, (hb.put k v).2.2⟩) (SameC.put _ _ _) (.inr (by rw [p4]; rfl)) (.inr ⟨by rw [p4]; rfl, p3.symm⟩) (by omega), p4, by omega, by omega⟩
theorem del_no (h : SInv r0 r last ks) {k : ByteArray} {kp : Int} (hw : r.delW k kp ≠ 0) : SInv r0 (r.del k kp) last ks :=
  h.keep (fun _ hb => ⟨(hb.del k kp).2.1 hw, (hb.del k kp).2.2⟩) (SameC.del _ _ _)
theorem del_ok (h : SInv r0 r last ks) {k : ByteArray} {kp : Int} (hw : r.delW k kp = 0) : SInv r0 (r.del k kp) (r.cnt + 1) ks ∧ r.delX k kp = delE k kp (r.cnt + 1) r.site ∧ last < r.cnt + 1 ∧ r.cnt + 1 ≤ 4294967295 := by
  obtain ⟨es, h1, h2, h3⟩ := h.es
  obtain ⟨p1, _, p3, p4, e, p5, p6⟩ := (h1.del k kp).1 hw
  have hl := h.lc
  have hk : k ∈ ks := by rw [← p6]; exact h3 e p5
  have := h.more (k := k) (x := r.delX k kp) (fun es hb => ⟨((hb.del k kp).1 hw).2.1, (hb.del k kp).2.2⟩) (SameC.del _ _ _) (.inr (by rw [p4]; rfl)) (.inr ⟨by rw [p4]; rfl, p3.symm⟩) (by omega : last ≤ r.cnt + 1)
  unfold noteL at this
  rw [if_pos (hasT_iff.2 hk)] at this
  exact ⟨this, p4, by omega, by omega⟩
theorem merge_old (h : SInv r0 r last ks) {e : EnV} (hw : r.mergeK e = 0) : SInv r0 (r.merge e) last ks :=
  h.keep (fun _ hb => ⟨(hb.merge e).1 hw, (hb.merge e).2.2.2.1⟩) (SameC.merge _ _)
theorem merge_taken (h : SInv r0 r last ks) {e : EnV} (hw : r.mergeK e = 1) : SInv r0 (r.merge e) last (noteL ks e.key) ∧ r.mergeW e = 0 ∧ r.overB e = false := by
  obtain ⟨es, h1, _⟩ := h.es
  obtain ⟨p1, p2, _, p4⟩ := (h1.merge e).2.1 hw
  exact ⟨h.more (x := r.mergeX e) (fun es hb => ⟨((hb.merge e).2.1 hw).2.2.1, (hb.merge e).2.2.2.1⟩) (SameC.merge _ _) (.inr p4) (.inl rfl) (Int.le_refl _), p1, p2⟩
theorem merge_woken (h : SInv r0 r last ks) {e : EnV} (hw : r.mergeK e = 2) : SInv r0 (r.merge e) (r.mergeX e).ac (noteL ks e.key) ∧ r.mergeW e = 0 ∧ BInv.WokenOf r e (r.mergeX e) ∧ last < (r.mergeX e).ac := by
  obtain ⟨es, h1, _⟩ := h.es
  obtain ⟨p1, p2, _, p4⟩ := (h1.merge e).2.2.1 hw
  have hl := h.lc
  have hgt := p2.2.2.1
  exact ⟨h.more (x := r.mergeX e) (fun es hb => ⟨((hb.merge e).2.2.1 hw).2.2.1, (hb.merge e).2.2.2.1⟩) (SameC.merge _ _) (.inr p2.2.2.2.2.1) (.inr ⟨rfl, p4.symm⟩) (by omega), p1, p2, by omega⟩
theorem tick (h : SInv r0 r last ks) (h2 : r.t2 ≤ 2147483647) : SInv r0 r.tick last ks :=
  h.keep (fun es hb => ⟨hb.tick h2, by
    unfold RepV.tick
    split
    · exact Int.le_refl _
    · obtain ⟨_, e2, _⟩ := RepV.ticks_tab hb.c.ok
      unfold SameT at e2
      unfold RepV.ticked
      rw [e2]; exact Int.le_refl _⟩) (SameC.tick h.ok)
/-- Opened anew: the same, or more keys than there is room for. -/
theorem reopen (h : SInv r0 r last ks) : ∃ es, BInv r es ∧ (∀ q, r.blank.recAll es = some q → SInv r0 q last ks) ∧ (r.blank.recAll es = none → r.room < ks.length) := by
  obtain ⟨es, h1, h2, h3⟩ := h.es
  obtain ⟨i1, i2⟩ := h1.reopen
  refine ⟨es, h1, fun q hq => ?_, fun hq => ?_⟩
  · obtain ⟨j1, j2⟩ := i1 q hq
    refine ⟨⟨es, j1, h2, h3⟩, h.l0, ?_, h.c.trans j2⟩
    rcases h2 with g | ⟨e, g1, g2⟩
    · have := j1.c.ok.cnt; omega
    · have := (j1.e e g1).2.1; omega
  · obtain ⟨l, k1, k2, k3⟩ := i2 hq
    have := nodup_sub k1 (b := ks) fun k hk => by
      obtain ⟨e, g1, g2⟩ := k2 k hk
      rw [← g2]; exact h3 e g1
    omega
end SInv
end Go.Proofs.YtggbeedghblakaaGreatDoor

/- The law's noted: keys with one more, each once. -/
namespace Go.Proofs.YtggbeedghblakaaGreatDoor
open Go.RowKit Go.Qd RepV

theorem bytesEq {x k : ByteArray} : (x.toList == k.toList) = decide (x = k) := by
  by_cases h : x = k
  · subst h; simp
  · rw [decide_eq_false h]
    refine beq_eq_false_iff_ne.2 fun e => h (kb_inj ?_)
    rw [Lib.toList_data, Lib.toList_data] at e; exact e

section
variable {W w : World} {R : List HP} {post : Ending → World → Prop}
set_option maxRecDepth 100000 in
set_option maxHeartbeats 2000000 in
theorem noted_c {a : Option Addr} {n c : Nat} {ks : List ByteArray} {k : ByteArray} (hm : n ≤ 1000000) (st : St W w (OwnS 1 a n c (strC ks) :: R))
    (K : ∀ a' n' c' w', n' = (noteL ks k).length → St W w' (OwnS 1 a' n' c' (strC (noteL ks k)) :: R) → post (.returned (.slice a' n' c')) w') :
    Calls Tryz.prog 28 #[.slice a n c, .string k] w post := by
  have HK := hid K; clear K
  have HN : Hid (ks.length = n) := hid (strC_ln (OwnS.rd st))
  have hb : (n + 1) * 16 ≤ 140737488355328 := by omega
  have hbm : n + 1 ≤ maxLen := by unfold maxLen; omega
  go_enter Tryz.func28, Tryz.ntmps28
  go_wp2_with fail
  go_loopw [9] (fun ii wr => ∃ i : Nat, i ≤ n ∧ ii = .int .i64 i ∧ Hid (∀ x ∈ ks.take i, x ≠ k) ∧ St W wr (OwnS 1 a n c (strC ks) :: R)) (fun ii _ => n - (intOf ii).toNat)
  case atStart => exact ⟨0, Nat.zero_le _, rfl, hid (by simp), st⟩
  case round =>
    obtain ⟨i, hi, rfl, HX, sr⟩ := hrel
    by_cases hlt : i < n
    · have hi2 : (i : Int) < (n : Int) := by omega
      have hiL : i < ks.length := by rw [HN.out]; exact hlt
      have rd := OwnS.rd sr
      obtain ⟨g, o, rfl⟩ := rd.addr (by omega)
      have hc := rd.at (i := i) (u := .string ks[i]) (by unfold strC; simp [hiL])
      have hts : ks.take (i + 1) = ks.take i ++ [ks[i]] := List.take_succ_eq_append_getElem hiL
      have hmem := List.getElem_mem hiL
      obtain ⟨x, hx⟩ : ∃ x, ks[i] = x := ⟨_, rfl⟩
      rw [hx] at hc hts hmem
      have HTS := hid hts
      have heq := bytesEq (x := x) (k := k)
      clear hx rd hts hiL
      by_cases hk : x = k
      · rw [decide_eq_true hk] at heq
        have HNL : Hid (noteL ks k = ks) := hid (by unfold noteL; rw [if_pos (hasT_iff.2 (by rw [← hk]; exact hmem))])
        clear hk hmem
        go_wp2_with fail
        have h1 := HK.out (some ⟨g, o, none⟩) n c wr (by rw [HNL.out]; exact HN.out.symm) (by rw [HNL.out]; exact sr)
        exact h1
      · rw [decide_eq_false hk] at heq
        have HNE := hid hk
        clear hk hmem
        go_wp2_with fail
        go_roundw
        case rel => exact ⟨i + 1, by omega, by go_num, hid (fun y hy => by rw [HTS.out] at hy; rcases List.mem_append.1 hy with h | h; exact HX.out y h; rw [List.mem_singleton] at h; rw [h]; exact HNE.out), sr⟩
        case measure => simp [intOf]; omega
    · have hie : i = n := by omega
      subst hie
      have HNL : Hid (noteL ks k = ks ++ [k]) := hid (by
        unfold noteL; rw [if_neg]
        intro h0
        have h := hasT_iff.1 h0
        have := HX.out
        rw [List.take_of_length_le (by rw [HN.out]; exact Nat.le_refl _)] at this
        exact this k h rfl)
      have s6 := sr.alloc #[.string k] 9
      have r6 := St.rowRd (sz := 1) (n := 1) s6 rfl (by decide) (by intro u hu; simp at hu; subst hu; rfl)
      have s7 := St.pick 1 s6
      go_wp2_with (at_builtin; refine wpl_append rfl (.tmp 18) (.tmp 20) rfl Tryz.elem56 rfl rfl s7 r6 hb hbm ?_; rintro a8 c8 w8 s8)
      have e1 : strC ks ++ [Value.string k] = strC (noteL ks k) := by rw [HNL.out]; simp [strC]
      rw [e1] at s8
      exact HK.out _ _ _ _ (by rw [HNL.out, List.length_append, HN.out]; rfl) ((St.pick 1 s8).drop)
end
end Go.Proofs.YtggbeedghblakaaGreatDoor
