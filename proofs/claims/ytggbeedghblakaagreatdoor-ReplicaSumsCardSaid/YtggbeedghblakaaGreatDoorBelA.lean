/- What goes down from a mark: the index's Below, the replica's Below; the document's Later of marks, an entry's mark. -/
import Derived.Test.YtggbeedghblakaaGreatDoorSumL
import Derived.Test.YtggbeedghblakaaGreatDoorTabX
import Derived.Test.YtggbeedghblakaaGreatDoorRngs
import Derived.Test.YtggbeedghblakaaGreatDoorGras
import Derived.Test.YtggbeedghblakaaGreatDoorLaws
import Derived.Laws.StructEq
import Derived.Deep.RegionLaw
namespace Go.Proofs.YtggbeedghblakaaGreatDoor
open Go.RowKit Go.Qd RepV

theorem below_drop {l : List MkV} (hs : SrtK mLt id l) {m : MkV} (hm : m.isNone = false) : belowR l m = l.drop (rankK mLt id l m + (if hasK id l m = true then 1 else 0)) := by
  unfold belowR
  rw [if_neg (by rw [hm]; decide)]
  cases h : hasK id l m with
  | true =>
    rw [if_pos rfl]
    exact (drop_succ_filter (k := m) mLt_ord hs h).symm
  | false =>
    rw [if_neg (by decide), Nat.add_zero, (rankK_split mLt_ord hs m).2]
    exact (filter_ge mLt_ord hs m h).symm

theorem enC_snoc3 (l : List EnV) (x : EnV) : enC (l ++ [x]) = enC l ++ x.cells := by simp [enC]

def neMG (x y : Operand) (a b : Value) : Sem Value := do eqGuard .neq 126 x y a b; Go.binOp .neq 126 a b
theorem execOp_neM (ρ : Operand → Value) (dst : Option Tmp) (x y : Operand) (r : TypeId) (ty : TypeId) (pos : String) (after : Array Edge) (guard : Option (Nat × Bool)) :
    execOp ρ { dst, op := .binOp .neq 126 x y r, type := ty, pos, after, guard } = (do pure (.value (← neMG x y (ρ x) (ρ y)))) := by simp [execOp, neMG]
theorem run_neM (x y : Operand) (a b : MkV) (w : World) : ∃ t : Bool, (t = false ↔ a = b) ∧ (neMG x y (.agg a.cells.toArray) (.agg b.cells.toArray)).run Tryz.prog w = .ok (.bool t) w := by
  obtain ⟨c, s, k⟩ := a
  obtain ⟨c', s', k'⟩ := b
  unfold neMG MkV.cells
  go_simp
  by_cases h : c = c' ∧ s = s' ∧ k = k'
  · obtain ⟨rfl, rfl, rfl⟩ := h
    simp
  · exact Or.inr ⟨fun a b c => h ⟨a, b, c⟩, fun a b c => h ⟨a, b, toList_inj c⟩⟩
theorem run_neM0 (x y : Operand) (m : MkV) (w : World) : (neMG x y (.agg m.cells.toArray) (.agg MkV.none.cells.toArray)).run Tryz.prog w = .ok (.bool (!m.isNone)) w := by
  obtain ⟨t, h1, h2⟩ := run_neM x y m MkV.none w
  rw [h2]
  cases t with
  | false => rw [MkV.isNone_iff.2 (h1.1 rfl)]; rfl
  | true =>
    cases h : m.isNone with
    | false => rfl
    | true => have := h1.2 (MkV.isNone_iff.1 h); cases this

section
attribute [local go_sem ↓] execOp_ldAny execOp_neM execOp_bsE execOp_stEn
attribute [local go_sem] run_bsE
variable {W w : World} {R : List HP} {post : Ending → World → Prop} {b : Nat} {l : List MkV} {m : MkV}
set_option maxRecDepth 100000 in
set_option maxHeartbeats 4000000 in
theorem ixbelow_c {k : Int} (ho : IxOK l) (hn : l.length ≤ 4096) (st : St W w (IdxH b l :: R))
    (K : ∀ a n' c' w', n' = (belowL l m k.toNat).length → St W w' (OwnS 3 a n' c' (mkC (belowL l m k.toNat)) :: IdxH b l :: R) → post (.returned (.slice a n' c')) w') :
    Calls Tryz.prog 110 #[.pointer (some ⟨b, 0, none⟩), .agg m.cells.toArray, .int .i64 k] w post := by
  have HK := hid K; clear K
  obtain ⟨mp, ao, n, c, acts, hi, s0⟩ := IdxH.open st
  have s : St W w (row b 0 [.map (some mp), .slice ao n c] :: OwnS 3 ao n c (mkC l) :: MapA Value.string mp acts :: R) := s0.perm [0, 1]
  have hl : l.length = n := mkC_ln (OwnS.rd (St.pick 1 s))
  have hle := (OwnS.rd (St.pick 1 s)).le
  have hmax := (OwnS.rd (St.pick 1 s)).max
  have HI := hid hi; have HO := hid ho; have HL := hid hl
  have hn4 : n ≤ 4096 := by omega
  have gN := run_neM0
  have key : ∀ (r n' z : Nat) (ax : Option Addr) (cx : Nat) (w' : World), n' + r = n → TailOf 3 ao r c ax cx → belowR l m = l.drop r → (z = (if k ≤ 0 then 0 else if (n' : Int) ≤ k then n' else k.toNat)) →
      ∀ R', (z ≤ n' ∧ (mkC (belowL l m k.toNat)).length = z * 3 ∧ (belowL l m k.toNat).length = z ∧ min (max k 0) (n' : Int) = (z : Int) ∧ (St W w' (OwnS 3 ao n c (mkC l) :: R') → RdS w' 3 ax z cx (mkC (belowL l m k.toNat)))) := by
    intro r n' z ax cx w' hr ht hb hz R'
    have hzn : z ≤ n' := by rw [hz]; split <;> (try split) <;> omega
    have hd : (l.drop r).length = n' := by rw [List.length_drop]; omega
    have hB : belowL l m k.toNat = (l.drop r).take z := by
      unfold belowL
      rw [hb, hz]
      split
      · rw [show k.toNat = 0 by omega]
      · split
        · rw [List.take_of_length_le (by omega), List.take_of_length_le (by omega)]
        · rfl
    have hlen : (belowL l m k.toNat).length = z := by rw [hB, List.length_take]; omega
    refine ⟨hzn, by rw [mkC_sz, hlen], hlen, ?_, fun s' => ?_⟩
    · rw [hz, Int.min_def, Int.max_def]
      split <;> split <;> (try split) <;> (try split) <;> omega
    · have h1 := (OwnS.rd s').tail (k := r) (n' := n') hr ht
      have h2 := h1.short hzn
      rw [hB, ← mkC_take (by omega), ← mkC_drop (by omega)]
      exact h2
  have HKEY := hid key
  clear hi hl key
  obtain ⟨z, hz⟩ : ∃ z : Nat, (if k ≤ 0 then 0 else if (n : Int) ≤ k then n else k.toNat) = z := ⟨_, rfl⟩
  cases hm : m.isNone with
  | true =>
    have gM : ∀ (x y : Operand) (w : World), (neMG x y (.agg m.cells.toArray) (.agg MkV.none.cells.toArray)).run Tryz.prog w = .ok (.bool false) w := fun x y w => by rw [gN, hm]; rfl
    obtain ⟨k1, k2, k3, k4, k5⟩ := HKEY.out 0 n z ao c w (by omega) ⟨by split; rfl; cases ao <;> simp [Addr.add], by omega⟩ (by unfold belowR; rw [if_pos hm, List.drop_zero]) hz.symm []
    have HK5 : Hid (∀ w' R', St W w' (OwnS 3 ao n c (mkC l) :: R') → RdS w' 3 ao z c (mkC (belowL l m k.toNat))) := hid (fun w' R' s' => (HKEY.out 0 n z ao c w' (by omega) ⟨by split; rfl; cases ao <;> simp [Addr.add], by omega⟩ (by unfold belowR; rw [if_pos hm, List.drop_zero]) hz.symm R').2.2.2.2 s')
    have hs2 := run_slice_to (P := Tryz.prog) Tryz.elem197 ao n c z (by omega)
    have HK3 := hid k3
    have hzb : z * 32 ≤ 140737488355328 := by omega
    clear hz hm k1 k2 k3 k5 gN
    go_enter Tryz.func110, Tryz.ntmps110
    go_wp2_with (first
      | (refine wpl_boxA (vs := m.cells) rfl (.tmp 1) rfl rfl s ?_; rintro T w1 s1
         have lm := run_loadG agg_mk (vs := m.cells) rfl s1.rowAll
         obtain ⟨h0, h1, _⟩ := rowTwo (St.pick 1 s1)
         rw [Nat.zero_add] at h1
         have l1 := run_ldP (t := 197) (by kernel_rfl) h1)
      | (refine wpl_build rfl rfl (v := .agg MkV.none.cells.toArray) (by kernel_rfl) ?_)
      | (at_builtin; refine wpl_max rfl _ _ rfl rfl rfl ?_)
      | (at_builtin; refine wpl_min rfl _ _ rfl rfl rfl ?_; rw [k4])
      | (go_at_call 163; refine cloneM_c s1 (HK5.out _ _ (St.pick 2 s1)) hzb ?_; rintro a7 c7 w7 s7))
    refine HK.out _ _ _ _ HK3.out.symm ?_
    have h1 := (St.pick 1 s7).drop
    exact (IdxH.close HI.out (h1.perm [1, 2, 1])).pick 1
  | false =>
    have gM : ∀ (x y : Operand) (w : World), (neMG x y (.agg m.cells.toArray) (.agg MkV.none.cells.toArray)).run Tryz.prog w = .ok (.bool true) w := fun x y w => by rw [gN, hm]; rfl
    have hbd := below_drop ho.srt hm
    obtain ⟨r0, hr0⟩ : ∃ r, rankK mLt id l m = r := ⟨_, rfl⟩
    obtain ⟨hb, hhb⟩ : ∃ hb, hasK id l m = hb := ⟨_, rfl⟩
    obtain ⟨r, hr⟩ : ∃ r, r0 + (if hb = true then 1 else 0) = r := ⟨_, rfl⟩
    have hrn : r ≤ n := by
      have h1 := HL.out
      cases hb with
      | true =>
        obtain ⟨_, _, _, _, h4⟩ := rankK_has mLt_ord ho.srt hhb
        rw [if_pos rfl] at hr; omega
      | false =>
        rw [if_neg (by decide)] at hr
        have h2 : rankK mLt id l m ≤ l.length := rankK_le
        omega
    rw [hr0, hhb, hr] at hbd
    obtain ⟨n', hn'⟩ : ∃ n', n' + r = n := ⟨n - r, by omega⟩
    obtain ⟨ax, cx, ht, hsl⟩ := run_slice_from (P := Tryz.prog) Tryz.elem197 ao n c r n' (i := (r : Int)) rfl hn'
    obtain ⟨z, hz⟩ : ∃ z : Nat, (if k ≤ 0 then 0 else if (n' : Int) ≤ k then n' else k.toNat) = z := ⟨_, rfl⟩
    obtain ⟨k1, k2, k3, k4, k5⟩ := HKEY.out r n' z ax cx w hn' ht hbd hz.symm []
    have HK5 : Hid (∀ w' R', St W w' (OwnS 3 ao n c (mkC l) :: R') → RdS w' 3 ax z cx (mkC (belowL l m k.toNat))) := hid (fun w' R' s' => (HKEY.out r n' z ax cx w' hn' ht hbd hz.symm R').2.2.2.2 s')
    have hcx : n' ≤ cx := by have := ht; obtain ⟨_, rfl⟩ := this; omega
    have hs2 := run_slice_to (P := Tryz.prog) Tryz.elem197 ax n' cx z (by omega)
    have HK3 := hid k3; have HR0 := hid hr0; have HHB := hid hhb
    have hzb : z * 32 ≤ 140737488355328 := by omega
    cases hb with
    | true =>
      have e1 : IntKind.i64.wrap ((r0 : Int) + 1) = (r : Int) := by rw [if_pos rfl] at hr; rw [IntWalk.i64_in _ (by omega), ← hr]; push_cast; rfl
      clear hz hm k1 k2 k3 k5 gN hr0 hhb hr hbd ht hn' hcx
      go_enter Tryz.func110, Tryz.ntmps110
      go_wp2_with (first
        | (refine wpl_boxA (vs := m.cells) rfl (.tmp 1) rfl rfl s ?_; rintro T w1 s1
           have lm := run_loadG agg_mk (vs := m.cells) rfl s1.rowAll
           obtain ⟨h0, h1, _⟩ := rowTwo (St.pick 1 s1)
           rw [Nat.zero_add] at h1
           have l1 := run_ldP (t := 197) (by kernel_rfl) h1)
        | (refine wpl_build rfl rfl (v := .agg MkV.none.cells.toArray) (by kernel_rfl) ?_)
        | (go_at_call 144; refine place_c HO.out.srt hn4 (s1.perm [1, 1]) ?_; rintro w3 s3; rw [HR0.out, HHB.out])
        | (at_builtin; refine wpl_max rfl _ _ rfl rfl rfl ?_)
        | (at_builtin; refine wpl_min rfl _ _ rfl rfl rfl ?_; rw [k4])
        | (go_at_call 163; refine cloneM_c s3 (HK5.out _ _ (St.pick 1 s3)) hzb ?_; rintro a7 c7 w7 s7))
      refine HK.out _ _ _ _ HK3.out.symm ?_
      have h1 := (St.pick 3 s7).drop
      exact (IdxH.close HI.out (h1.perm [1, 2, 1])).pick 1
    | false =>
      have e1 : r0 = r := by rw [if_neg (by decide)] at hr; omega
      subst e1
      clear hz hm k1 k2 k3 k5 gN hr0 hhb hr hbd ht hn' hcx
      go_enter Tryz.func110, Tryz.ntmps110
      go_wp2_with (first
        | (refine wpl_boxA (vs := m.cells) rfl (.tmp 1) rfl rfl s ?_; rintro T w1 s1
           have lm := run_loadG agg_mk (vs := m.cells) rfl s1.rowAll
           obtain ⟨h0, h1, _⟩ := rowTwo (St.pick 1 s1)
           rw [Nat.zero_add] at h1
           have l1 := run_ldP (t := 197) (by kernel_rfl) h1)
        | (refine wpl_build rfl rfl (v := .agg MkV.none.cells.toArray) (by kernel_rfl) ?_)
        | (go_at_call 144; refine place_c HO.out.srt hn4 (s1.perm [1, 1]) ?_; rintro w3 s3; rw [HR0.out, HHB.out])
        | (at_builtin; refine wpl_max rfl _ _ rfl rfl rfl ?_)
        | (at_builtin; refine wpl_min rfl _ _ rfl rfl rfl ?_; rw [k4])
        | (go_at_call 163; refine cloneM_c s3 (HK5.out _ _ (St.pick 1 s3)) hzb ?_; rintro a7 c7 w7 s7))
      refine HK.out _ _ _ _ HK3.out.symm ?_
      have h1 := (St.pick 3 s7).drop
      exact (IdxH.close HI.out (h1.perm [1, 2, 1])).pick 1

set_option maxRecDepth 100000 in
set_option maxHeartbeats 8000000 in
theorem rbelow_c {A : RAd} {r : RepV} {k : Int} (h : Core r) (st : St W w (RepA A r :: R))
    (K : ∀ a n' c' w', n' = (belowL r.ix m k.toNat).length → St W w' (OwnS 9 a n' c' (enC ((belowL r.ix m k.toNat).map fun x => tget r.tab x.key)) :: RepA A r :: R) → post (.returned (.slice a n' c')) w') :
    Calls Tryz.prog 54 #[.pointer (some ⟨A.p, 0, none⟩), .agg m.cells.toArray, .int .i64 k] w post := by
  have HK := hid K; clear K
  have HH := hid h
  have hixn : r.ix.length ≤ 4096 := by have := h.ok.ixL; omega
  have htl : r.tab.length ≤ 4096 := by have := h.ok.len; have := h.ok.room; omega
  have HIX := hid hixn; have HTL := hid htl
  obtain ⟨L, hL⟩ : ∃ L, belowL r.ix m k.toNat = L := ⟨_, rfl⟩
  have hL4 : L.length ≤ 4096 := by
    rw [← hL]; unfold belowL belowR
    rw [List.length_take]
    refine Nat.le_trans (Nat.min_le_right _ _) ?_
    split
    · exact hixn
    · exact Nat.le_trans (List.length_filter_le _ _) hixn
  have HLL := hid hL
  rw [hL] at HK
  clear h hL hixn htl
  go_enter Tryz.func54, Tryz.ntmps54
  go_upto_region 2 with (refine wpl_boxA (vs := m.cells) rfl (.tmp 1) rfl rfl st ?_; rintro M w1 s1)
  try simp only [Act.put, List.setIfInBounds_toArray, List.set_cons_succ, List.set_cons_zero]
  go_cut [18, 19, 20] (fun v nn zz wx => ∃ ao c, v = .slice ao L.length c ∧ nn = .int .i64 (L.length : Nat) ∧ zz = .int .i64 0 ∧ St W wx (OwnS 3 ao L.length c (mkC L) :: RepA A r :: R))
  case first =>
    have u := s1.drew
    have gA := And.intro (repLd (St.pick 1 u)).2.2.2.1 (run_loadG agg_mk (vs := m.cells) rfl u.rowAll)
    have u2 : St W w1.drew (IdxH A.ix r.ix :: row A.p 0 (repC A r) :: row A.clk 0 [.int .i64 r.cnt, .int .i64 r.site] :: TabE A.tb 0 r.room r.tab :: TabB A.ow 0 4096 r.own :: row A.gr 0 (graC A r) :: TabE A.gp 0 4096 r.gr :: JrnH A.jb A.d :: DskH A.d r.d :: row M 0 m.cells :: R) :=
      ((RepA.open.1 (St.pick 1 u)).pick 4)
    go_region_held3 (fun w' => (loadG 79 (.pointer (some ⟨A.p, 9, none⟩))).run Tryz.prog w' = .ok (.pointer (some ⟨A.ix, 0, none⟩)) w' ∧ (loadG 126 (.pointer (some ⟨M, 0, none⟩))).run Tryz.prog w' = .ok (.agg m.cells.toArray) w')
      (first
        | with_reducible exact gB
        | with_reducible exact gA)
      (first | (go_at_call 110; refine ixbelow_c HH.out.ok.ix HIX.out u2 ?_; rintro a5 n5 c5 w5 hn5 s5'; rw [HLL.out] at s5' hn5; subst hn5; have s5 : St W w5 (OwnS 3 a5 L.length c5 (mkC L) :: RepA A r :: row M 0 m.cells :: R) := St.pick 1 (RepA.open.2 (s5'.perm [2, 2, 2, 2, 1, 1, 1, 1, 1])); have gB := And.intro (repLd (St.pick 1 s5)).2.2.2.1 (run_loadG agg_mk (vs := m.cells) rfl (St.pick 2 s5).rowAll)))
    all_goals
      go_wp2_with fail
      go_meet
      case rel => exact ⟨_, _, rfl, rfl, rfl, (s5.perm [2]).drop⟩
  case rest =>
  obtain ⟨ao, c, rfl, rfl, rfl, s5⟩ := hcut
  have s6 : St W _ (OwnS 9 none 0 0 (enC []) :: OwnS 3 ao L.length c (mkC L) :: RepA A r :: R) := OwnS.none0 s5
  clear s5 s1
  obtain ⟨N, hN⟩ : ∃ N, L.length = N := ⟨_, rfl⟩
  have HN := hid hN
  rw [hN] at hL4 s6 ⊢
  clear hN
  go_wp2_with fail
  go_loopw [7, 20] (fun oo ii wr => ∃ (i : Nat) (oa : Option Addr) (oc : Nat), i ≤ N ∧ oo = .slice oa i oc ∧ ii = .int .i64 i ∧ St W wr (OwnS 9 oa i oc (enC ((L.take i).map fun x => tget r.tab x.key)) :: OwnS 3 ao N c (mkC L) :: RepA A r :: R)) (fun _ ii _ => N - (intOf ii).toNat)
  case atStart => exact ⟨0, _, _, Nat.zero_le _, rfl, rfl, s6⟩
  case round =>
    obtain ⟨i, oa, oc, hi, rfl, rfl, sr⟩ := hrel
    by_cases hlt : i < N
    · have hi2 : (i : Int) < (N : Int) := by omega
      have hiA : i < L.length := by rw [HN.out]; exact hlt
      have rdr := OwnS.rd (St.pick 1 sr)
      obtain ⟨g3, o3, rfl⟩ := rdr.addr (by omega)
      have ci := mkC_ld rdr hiA
      have hts : L.take (i + 1) = L.take i ++ [L[i]] := List.take_succ_eq_append_getElem hiA
      obtain ⟨x, hx⟩ : ∃ x, L[i] = x := ⟨_, rfl⟩
      rw [hx] at ci hts
      obtain ⟨e, he⟩ : ∃ e, tget r.tab x.key = e := ⟨_, rfl⟩
      obtain ⟨t, ht⟩ : ∃ t, thas r.tab x.key = t := ⟨_, rfl⟩
      have HTS : Hid ((L.take (i + 1)).map (fun x => tget r.tab x.key) = (L.take i).map (fun x => tget r.tab x.key) ++ [e]) := hid (by rw [hts, List.map_append, ← he]; rfl)
      have HE := hid he; have HT := hid ht
      have hb1 : (i + 1) * 88 ≤ 140737488355328 := by omega
      have hb2 : i + 1 ≤ maxLen := by unfold maxLen; omega
      clear hx rdr hiA hts he ht
      go_upto_region 5 with (first
        | (refine wpl_allocA (vs := MkV.none.cells) rfl rfl (fun _ => by kernel_rfl) sr ?_; rintro T w2 s2)
        | (refine wpl_storeA (vs := x.cells) rfl (.tmp 9) (.tmp 23) (by rfl) agg_mk (by rfl) (by rfl) rfl (mk_one _) s2 rfl ?_; rintro w3 s3))
      try simp only [Act.put, List.setIfInBounds_toArray, List.set_cons_succ, List.set_cons_zero]
      go_cut [10] (fun pp wx => ∃ U, pp = .pointer (some ⟨U, 0, none⟩) ∧ St W wx (row U 0 e.cells :: OwnS 9 oa i oc (enC ((L.take i).map fun x => tget r.tab x.key)) :: OwnS 3 (some ⟨g3, o3, none⟩) N c (mkC L) :: RepA A r :: R))
      case first =>
        have sq : St W w3 (RepA A r :: row T 0 x.cells :: OwnS 9 oa i oc (enC ((L.take i).map fun x => tget r.tab x.key)) :: OwnS 3 (some ⟨g3, o3, none⟩) N c (mkC L) :: R) := St.pick 3 s3
        have u : St W w3.drew (RepA A r :: row T 0 x.cells :: OwnS 9 oa i oc (enC ((L.take i).map fun x => tget r.tab x.key)) :: OwnS 3 (some ⟨g3, o3, none⟩) N c (mkC L) :: R) := sq.drew
        have gA := And.intro (repLd u).2.1 (mkL (St.pick 1 u)).2
        have u2 := (sq.alloc EnV.zero.cells.toArray 39).drew
        have gB := And.intro (repLd (St.pick 1 u2)).2.1 (mkL (St.pick 2 u2)).2
        have gz := zero_en
        have hone : oneG e.cells 9 := ⟨rfl, env_one _⟩
        go_region_held3 (fun w' => (loadG 77 (.pointer (some ⟨A.p, 7, none⟩))).run Tryz.prog w' = .ok (.pointer (some ⟨A.tb, 0, none⟩)) w' ∧ (loadG 9 (.pointer (some ⟨T, 2, none⟩))).run Tryz.prog w' = .ok (.string x.key) w')
          (first
            | with_reducible exact gE
            | with_reducible exact gD
            | with_reducible exact gC
            | with_reducible exact gB
            | with_reducible exact gA)
          (first
            | (go_at_call 70; first
                | (refine getE_c HH.out.ok.tab HTL.out (St.pick 2 (RepA.open.1 u)) ?_; rintro w5 t5; rw [HT.out, HE.out]; have s5 : St W w5 (RepA A r :: row T 0 x.cells :: OwnS 9 oa i oc (enC ((L.take i).map fun x => tget r.tab x.key)) :: OwnS 3 (some ⟨g3, o3, none⟩) N c (mkC L) :: R) := RepA.open.2 (t5.perm [1, 1]); have gC := And.intro (repLd s5).2.1 (mkL (St.pick 1 s5)).2; have u5 := s5.alloc EnV.zero.cells.toArray 39; have gD := And.intro (repLd (St.pick 1 u5)).2.1 (mkL (St.pick 2 u5)).2; have rB := run_storeG agg_en (b := w5.heap.size) (o := 0) (u5.roomG rfl) hone; have u6 := u5.setAll (vs := e.cells) rfl; have gE := And.intro (repLd (St.pick 1 u6)).2.1 (mkL (St.pick 2 u6)).2)
                | (refine getE_c HH.out.ok.tab HTL.out (St.pick 2 (RepA.open.1 (St.pick 1 u2))) ?_; rintro w5 t5; rw [HT.out, HE.out]; have s5 : St W w5 (row w3.heap.size 0 EnV.zero.cells :: RepA A r :: row T 0 x.cells :: OwnS 9 oa i oc (enC ((L.take i).map fun x => tget r.tab x.key)) :: OwnS 3 (some ⟨g3, o3, none⟩) N c (mkC L) :: R) := St.pick 1 (RepA.open.2 (t5.perm [1, 1])); have gC := And.intro (repLd (St.pick 1 s5)).2.1 (mkL (St.pick 2 s5)).2; have rB := run_storeG agg_en (b := w3.heap.size) (o := 0) (s5.roomG rfl) hone; have u6 := s5.setAll (vs := e.cells) rfl; have gE := And.intro (repLd (St.pick 1 u6)).2.1 (mkL (St.pick 2 u6)).2)))
        all_goals
          go_wp2_with fail
          go_meet
          case rel => exact ⟨_, rfl, ((u6.pick 2).drop).perm [0, 1, 1]⟩
      case rest =>
      obtain ⟨U, rfl, sc⟩ := hcut
      have lU := run_loadG agg_en (vs := e.cells) rfl sc.rowAll
      have s5 := sc.alloc e.cells.toArray 39
      have r5 := St.rowRd (sz := 9) (n := 1) s5 rfl (by decide) (env_one e)
      have s6 := St.pick 2 s5
      go_wp2_with (at_builtin; refine wpl_append rfl (.tmp 34) (.tmp 36) rfl Tryz.elem48 rfl rfl s6 r5 hb1 hb2 ?_; rintro a8 c8 w8 s8)
      go_roundw
      case rel => exact ⟨i + 1, a8, c8, by omega, rfl, by go_num, by rw [HTS.out, enC_snoc3]; exact (((s8.pick 1).drop).pick 1).drop⟩
      case measure => simp [intOf]; omega
    · have hie : i = N := by omega
      subst hie
      go_wp2_with fail
      rw [List.take_of_length_le (by rw [HN.out]; exact Nat.le_refl _)] at sr
      exact HK.out _ _ _ _ HN.out.symm ((sr.pick 1).drop)
end
end Go.Proofs.YtggbeedghblakaaGreatDoor
