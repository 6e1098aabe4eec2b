/- TabsB: several texts, joined. Tables of entries: Put, Drop. -/
import Derived.Test.YtojfjbbggpfijaaGreatDoorTabX
import Derived.Deep.RegionLaw
namespace Go.Qd
/-- A part of an owned slice is written. -/
theorem OwnS.setPart {W w : World} {R : List HP} {sz n c b o : Nat} {cs vs : List Value} (s : St W w (OwnS sz (some ⟨b, o, none⟩) n c cs :: R)) {q m : Nat} (hm : vs.length = m) (hq : q + m ≤ cs.length) (h1 : ∀ u ∈ vs, u.oneCell' = true) :
    roomG w b (o + q) m ∧ St W (w.setCells b (o + q) vs) (OwnS sz (some ⟨b, o, none⟩) n c (splice cs q vs) :: R) := by
  subst hm
  obtain ⟨sp, p, s1⟩ := OwnS.open s
  have s1' : St W w (row b o (cs ++ sp) :: R) := s1
  refine ⟨fun j hj => ?_, ?_⟩
  · have hlt : q + j < (cs ++ sp).length := by rw [List.length_append]; omega
    have h2 := s1'.rowCell (List.getElem?_eq_getElem hlt)
    have h3 := s1'.rowFree hlt
    rw [← Nat.add_assoc] at h2 h3
    exact ⟨by rw [h2]; rfl, h3⟩
  · have s2 := s1'.setPart (xs := vs) (p := q) (by rw [List.length_append]; omega)
    have e : splice (cs ++ sp) q vs = splice cs q vs ++ sp := by
      unfold splice
      rw [List.take_append_of_le_length (by omega), List.drop_append_of_le_length (by omega)]
      simp only [List.append_assoc]
    rw [e] at s2
    refine OwnS.close (sp := sp) ⟨?_, p.spare, p.le, p.max, by simp, fun _ => ⟨_, _, rfl⟩, ?_⟩ s2
    · unfold splice; rw [List.length_append, List.length_append, List.length_take, List.length_drop, ← p.len]; omega
    · intro u hu
      have p1 := p.one
      unfold splice at hu
      simp only [List.mem_append] at hu
      rcases hu with (g | g) | g
      · exact p1 u (List.mem_of_mem_take g)
      · exact h1 u g
      · exact p1 u (List.mem_of_mem_drop g)
theorem OwnS.setAt {W w : World} {R : List HP} {sz n c b o : Nat} {cs : List Value} (s : St W w (OwnS sz (some ⟨b, o, none⟩) n c cs :: R)) {q : Nat} (hq : q < cs.length) (v : Value) (hv : v.oneCell' = true) :
    ∃ u, w.cell? ⟨b, o + q, none⟩ = some u ∧ w.frozen? ⟨b, o + q, none⟩ = false ∧ St W (w.setCell ⟨b, o + q, none⟩ v) (OwnS sz (some ⟨b, o, none⟩) n c (cs.set q v) :: R) := by
  obtain ⟨h1, s1⟩ := OwnS.setPart (vs := [v]) (q := q) (m := 1) s rfl (by omega) (by simpa using hv)
  obtain ⟨h2, h3⟩ := h1 0 (by decide)
  rw [Nat.add_zero] at h2 h3
  obtain ⟨u, hu⟩ := Option.isSome_iff_exists.1 h2
  refine ⟨u, hu, h3, ?_⟩
  have e : splice cs q [v] = cs.set q v := by unfold splice; rw [List.set_eq_take_append_cons_drop, if_pos hq]; simp
  rw [e] at s1
  exact s1
end Go.Qd
namespace Go.Proofs.YtojfjbbggpfijaaGreatDoor
open Go.RowKit Go.Qd

theorem tabC_app (a b : List KE) : tabC (a ++ b) = tabC a ++ tabC b := by simp [tabC]
theorem tabC_cons (x : KE) (b : List KE) : tabC (x :: b) = peC x ++ tabC b := by simp [tabC]
theorem tabC_take {l : List KE} {r : Nat} (h : r ≤ l.length) : (tabC l).take (r * 10) = tabC (l.take r) := by
  have e : tabC l = tabC (l.take r) ++ tabC (l.drop r) := by rw [← tabC_app, List.take_append_drop]
  have hl : (tabC (l.take r)).length = r * 10 := by rw [tabC_sz, List.length_take]; omega
  rw [e, ← hl, List.take_left']
  rfl
theorem tabC_drop {l : List KE} {r : Nat} (h : r ≤ l.length) : (tabC l).drop (r * 10) = tabC (l.drop r) := by
  have e : tabC l = tabC (l.take r) ++ tabC (l.drop r) := by rw [← tabC_app, List.take_append_drop]
  have hl : (tabC (l.take r)).length = r * 10 := by rw [tabC_sz, List.length_take]; omega
  rw [e, ← hl, List.drop_left']
  rfl
theorem tabC_set {l : List KE} {r : Nat} {k : ByteArray} {x v : EnV} (h : l[r]? = some (k, x)) : splice (tabC l) (r * 10 + 1) v.cells = tabC (l.set r (k, v)) := by
  obtain ⟨hr, he⟩ := List.getElem?_eq_some_iff.1 h
  have e1 : l = l.take r ++ (k, x) :: l.drop (r + 1) := by rw [← he, List.getElem_cons_drop, List.take_append_drop]
  have e2 : l.set r (k, v) = l.take r ++ (k, v) :: l.drop (r + 1) := by rw [List.set_eq_take_append_cons_drop, if_pos hr]
  have hl : (tabC (l.take r)).length = r * 10 := by rw [tabC_sz, List.length_take]; omega
  have hv : v.cells.length = 9 := rfl
  have hx : x.cells.length = 9 := rfl
  have e3 : tabC l = tabC (l.take r) ++ (.string k :: (x.cells ++ tabC (l.drop (r + 1)))) := by
    conv => lhs; rw [e1]
    rw [tabC_app, tabC_cons]; rfl
  rw [e2, tabC_app, tabC_cons, e3]
  unfold splice
  rw [hv, ← hl, List.take_length_add_append, Nat.add_assoc, List.drop_length_add_append]
  simp [peC, EnV.cells]

/-- A table that is put to. -/
theorem tput_len {l : List KE} (hs : TSrt l) (k : ByteArray) (v : EnV) : (tput l k v).length = if thas l k = true then l.length else l.length + 1 := by
  unfold tput thas
  cases h : hasK Prod.fst l k with
  | true => rw [putK_len_old kLt_ord hs (k, v) h]; rfl
  | false => rw [putK_len_new kLt_ord hs (k, v) h]; rfl

theorem execOp_loadE (ρ : Operand → Value) (dst : Option Tmp) (a : Operand) (ty : TypeId) (pos : String) (after : Array Edge) (guard : Option (Nat × Bool)) :
    execOp ρ { dst, op := .load 67 a, type := ty, pos, after, guard } = (do pure (.value (← loadG 67 (ρ a)))) := rfl
def bldG (t : TypeId) (x y : Value) : Sem Value := Instr.build t #[(0, x), (1, y)]
def bslG (t : TypeId) (x : Value) : Sem Value := Instr.buildSlice t 1 #[(0, x)]
theorem execOp_bldE (ρ : Operand → Value) (dst : Option Tmp) (a c : Operand) (ty : TypeId) (pos : String) (after : Array Edge) (guard : Option (Nat × Bool)) :
    execOp ρ { dst, op := .build 198 #[(0, a), (1, c)], type := ty, pos, after, guard } = (do pure (.value (← bldG 198 (ρ a) (ρ c)))) := by simp [execOp, bldG]
theorem execOp_bslE (ρ : Operand → Value) (dst : Option Tmp) (a : Operand) (ty : TypeId) (pos : String) (after : Array Edge) (guard : Option (Nat × Bool)) :
    execOp ρ { dst, op := .buildSlice 199 1 #[(0, a)], type := ty, pos, after, guard } = (do pure (.value (← bslG 199 (ρ a)))) := by simp [execOp, bslG]
theorem run_bldE (k : ByteArray) (v : EnV) (w : World) : (bldG 198 (.string k) (.agg v.cells.toArray)).run Tryz.prog w = .ok (.agg (peC (k, v)).toArray) w := by kernel_rfl
theorem run_bslE (x : KE) (w : World) : (bslG 199 (.agg (peC x).toArray)).run Tryz.prog w = .ok (.slice (some ⟨w.heap.size, 0, none⟩) 1 1) (w.alloc (.cells (peC x).toArray 198)) := by kernel_rfl
attribute [local go_sem ↓] execOp_loadE execOp_bldE execOp_bslE
attribute [local go_sem] run_bldE run_bslE
theorem execOp_storeE (ρ : Operand → Value) (dst : Option Tmp) (a x : Operand) (ty : TypeId) (pos : String) (after : Array Edge) (guard : Option (Nat × Bool)) :
    execOp ρ { dst, op := .store 67 a x, type := ty, pos, after, guard } = (do storeG 67 (ρ a) (ρ x); pure .skip) := rfl
attribute [local go_sem ↓] execOp_storeE

section
variable {W w : World} {R : List HP} {post : Ending → World → Prop} {b : Nat} {room : Int} {l : List KE} {k : ByteArray} {v : EnV}

set_option maxRecDepth 100000 in
set_option maxHeartbeats 4000000 in
theorem putE_old (hs : TSrt l) (hn : l.length ≤ 4096) (hh : thas l k = true) (st : St W w (TabE b 0 room l :: R))
    (K : ∀ w', St W w' (TabE b 0 room (tput l k v) :: R) → post (.returned (.int .i64 0)) w') :
    Calls Tryz.prog 140 #[.pointer (some ⟨b, 0, none⟩), .string k, .agg v.cells.toArray] w post := by
  have HK := hid K; clear K
  obtain ⟨r, hre⟩ : ∃ r, rankK kLt Prod.fst l k = r := ⟨_, rfl⟩
  have HR := hid hre
  obtain ⟨⟨k', x⟩, hx1, hx2, hx3⟩ := tget_has hs hh
  have hx2' : k' = k := hx2
  subst hx2'
  rw [hre] at hx1
  have HX := hid hx1
  have HP : Hid (l.set r (k', v) = tput l k' v) := hid (by rw [← hre]; exact putK_old kLt_ord hs (k', v) hh)
  have HH := hid hh
  clear hre hx1 hx2 hx3 hh
  go_enter Tryz.func140, Tryz.ntmps140
  go_wp2_with (first
    | (refine wpl_boxA (vs := v.cells) rfl (.tmp 2) rfl rfl st ?_; rintro T w1 s1)
    | (go_at_call 92; refine findE_c hs hn (St.pick 1 s1) ?_; rintro w3 s3; rw [HR.out, HH.out]))
  obtain ⟨ao, n, c, s4'⟩ := TabE.open s3
  have s4 := s4'.drew
  have rd := OwnS.rd (St.pick 1 s4)
  have hln := tabC_ln rd
  have hrl := (List.getElem?_eq_some_iff.1 HX.out).1
  have hrn : r < n := by rw [← hln]; exact hrl
  obtain ⟨g, o, rfl⟩ := rd.addr (by omega)
  obtain ⟨c0, c1, _⟩ := rowTwo s4
  rw [Nat.zero_add] at c1
  have cT := run_loadG agg_en (vs := v.cells) rfl (St.pick 2 s4).rowAll
  obtain ⟨hroom, s5⟩ := OwnS.setPart (vs := v.cells) (q := r * 10 + 1) (m := 9) (St.pick 1 s4) rfl (by rw [tabC_sz]; omega) (env_one v)
  rw [← Nat.add_assoc] at hroom s5
  have cS := run_storeG agg_en hroom ⟨rfl, env_one v⟩
  rw [tabC_set HX.out, HP.out] at s5
  clear hroom rd hln hrl
  go_region_law (fail)
  all_goals
    go_wp2_with fail
    exact HK.out _ (TabE.close ((s5.perm [2, 1]).dropN 1))

set_option maxRecDepth 100000 in
set_option maxHeartbeats 4000000 in
theorem putE_full (hs : TSrt l) (hn : l.length ≤ 4096) (hh : thas l k = false) (hr : (l.length : Int) = room) (st : St W w (TabE b 0 room l :: R))
    (K : ∀ w', St W w' (TabE b 0 room l :: R) → post (.returned (.int .i64 7)) w') :
    Calls Tryz.prog 140 #[.pointer (some ⟨b, 0, none⟩), .string k, .agg v.cells.toArray] w post := by
  have HK := hid K; clear K
  have HH := hid hh
  clear hh
  go_enter Tryz.func140, Tryz.ntmps140
  go_wp2_with (first
    | (refine wpl_boxA (vs := v.cells) rfl (.tmp 2) rfl rfl st ?_; rintro T w1 s1)
    | (go_at_call 92; refine findE_c hs hn (St.pick 1 s1) ?_; rintro w3 s3; rw [HH.out]))
  obtain ⟨ao, n, c, s4⟩ := TabE.open s3
  have hln : l.length = n := tabC_ln (OwnS.rd (St.pick 1 s4))
  rw [hln] at hr
  have hb : ((n : Int) == room) = true := by rw [hr]; exact beq_self_eq_true _
  obtain ⟨c0, c1, _⟩ := rowTwo s4
  rw [Nat.zero_add] at c1
  clear hr hln
  go_quiet (fail)
  go_wp2_with fail
  exact HK.out _ ((St.pick 1 ((TabE.close s4).drewN nq)).drop)

set_option maxRecDepth 100000 in
set_option maxHeartbeats 4000000 in
theorem putE_new (hs : TSrt l) (hn : l.length ≤ 4095) (hh : thas l k = false) (hr : ¬ (l.length : Int) = room) (st : St W w (TabE b 0 room l :: R))
    (K : ∀ w', St W w' (TabE b 0 room (tput l k v) :: R) → post (.returned (.int .i64 0)) w') :
    Calls Tryz.prog 140 #[.pointer (some ⟨b, 0, none⟩), .string k, .agg v.cells.toArray] w post := by
  have HK := hid K; clear K
  have HH := hid hh
  clear hh
  go_enter Tryz.func140, Tryz.ntmps140
  go_wp2_with (first
    | (refine wpl_boxA (vs := v.cells) rfl (.tmp 2) rfl rfl st ?_; rintro T w1 s1)
    | (go_at_call 92; refine findE_c hs (by omega) (St.pick 1 s1) ?_; rintro w3 s3; rw [HH.out]))
  obtain ⟨ao, n, c, s4⟩ := TabE.open s3
  have hln : l.length = n := tabC_ln (OwnS.rd (St.pick 1 s4))
  rw [hln] at hr
  have hb : ((n : Int) == room) = false := by simp [hr]
  obtain ⟨c0, c1, _⟩ := rowTwo s4
  rw [Nat.zero_add] at c1
  obtain ⟨r, hre⟩ : ∃ r, rankK kLt Prod.fst l k = r := ⟨_, rfl⟩
  have hrn : r ≤ n := by rw [← hln, ← hre]; exact rankK_le
  have HP : Hid ((tabC l).take (r * 10) ++ peC (k, v) ++ (tabC l).drop (r * 10) = tabC (tput l k v)) := hid (by
    have hrl : r ≤ l.length := by omega
    have h9 := putK_new kLt_ord hs (k, v) HH.out
    have h9' : l.take r ++ [(k, v)] ++ l.drop r = tput l k v := by rw [← hre]; exact h9
    rw [← h9', tabC_take hrl, tabC_drop hrl, tabC_app, tabC_app, tabC_cons]; simp [tabC])
  rw [hre]
  have hn4 : n ≤ 4095 := by omega
  clear hr hln hre
  go_quiet (fail)
  have s6 := s4.drewN nq
  clear c0 c1
  go_wp2_with fail
  generalize w3.drewN nq = w4 at s6 ⊢
  obtain ⟨c0, c1, c2⟩ := rowTwo s6.drew
  rw [Nat.zero_add] at c1 c2
  have cT := run_loadG agg_en (vs := v.cells) rfl (St.pick 2 s6.drew).rowAll
  have s7 : St W _ (row w4.heap.size 0 (peC (k, v)) :: _) := (s6.alloc (peC (k, v)).toArray 198).drew
  obtain ⟨d0, d1, d2⟩ := rowTwo (St.pick 1 s7)
  rw [Nat.zero_add] at d1 d2
  have dT := run_loadG agg_en (vs := v.cells) rfl (St.pick 3 s7).rowAll
  have hv : (w4.alloc (.cells (peC (k, v)).toArray 198)).drew.heap[w4.heap.size]? = some (.cells (peC (k, v)).toArray 198 (0, 0)) := heap_alloc_new w4 _
  have s8 := s7.perm [2, 0]
  go_region_law (go_simp; go_at_call 174; refine insE_c s8 hv rfl rfl (pe_one _) hrn (by omega) ?_; rintro a9 c9 w9 s9; rw [HP.out] at s9; obtain ⟨k0, k1, k2⟩ := rowTwo (St.pick 1 s9); rw [Nat.zero_add] at k1 k2)
  all_goals
    go_wp2_with fail
    have sA := (St.pick 1 s9).rowSet (i := 1) (by simp) (.slice a9 (n + 1) c9)
    rw [Nat.zero_add] at sA
    have sB : St W _ (row b 0 [.int .i64 room, .slice a9 (n + 1) c9] :: OwnS 10 a9 (n + 1) c9 (tabC (tput l k v)) :: row T 0 v.cells :: R) := sA
    exact HK.out _ (TabE.close ((sB.perm [2]).dropN 1))

end
end Go.Proofs.YtojfjbbggpfijaaGreatDoor

/- Tables of bools: where a key stands, what it has, what is put. Printed by mkTabB.py. -/
namespace Go.Proofs.YtojfjbbggpfijaaGreatDoor
open Go.RowKit Go.Qd

abbrev KB := ByteArray × Bool
def BSrt (l : List KB) : Prop := SrtK kLt Prod.fst l
def bhas (l : List KB) (k : ByteArray) : Bool := hasK Prod.fst l k
def pbC (p : KB) : List Value := [.string p.1, .bool p.2]
def tbC (l : List KB) : List Value := (l.map pbC).flatten
theorem tbC_sz (l : List KB) : (tbC l).length = l.length * 2 := by
  induction l with
  | nil => rfl
  | cons x l ih => show (pbC x ++ tbC l).length = _; rw [List.length_append, ih, List.length_cons]; simp [pbC]; omega
theorem tbC_get {l : List KB} {i : Nat} (hi : i < l.length) {j : Nat} {u : Value} (h : (pbC l[i])[j]? = some u) : (tbC l)[i * 2 + j]? = some u := by
  have hj : j < 2 := by
    rcases Nat.lt_or_ge j 2 with g | g
    · exact g
    · rw [List.getElem?_eq_none (by simpa [pbC] using g)] at h; cases h
  have := flat_get (css := l.map pbC) (sz := 2) (fun cs hc => by obtain ⟨x, _, rfl⟩ := List.mem_map.1 hc; rfl) (i := i) (by simpa using hi) (j := j) hj
  unfold tbC; rw [this, List.getElem_map]; exact h
theorem agg_pb : AggT Tryz.prog 256 2 := ⟨⟨_, Tryz.underlying256, rfl⟩, by kernel_rfl⟩
theorem tbC_ld {w : World} {b o n c i : Nat} {l : List KB} (rd : RdS w 2 (some ⟨b, o, none⟩) n c (tbC l)) (hi : i < l.length) :
    (loadG 256 (.pointer (some ⟨b, o + i * 2, none⟩))).run Tryz.prog w = .ok (.agg (pbC l[i]).toArray) w :=
  run_loadG agg_pb rfl (fun _ _ hu => rd.at2 (tbC_get hi hu))
theorem tbC_ln {w : World} {ao : Option Addr} {n c : Nat} {l : List KB} (rd : RdS w 2 ao n c (tbC l)) : l.length = n := by have := rd.len; rw [tbC_sz] at this; omega

theorem pb_one (x : KB) : ∀ u ∈ pbC x, u.oneCell' = true := by
  intro u hu; simp only [pbC, List.mem_cons, List.not_mem_nil, or_false] at hu
  rcases hu with rfl | rfl <;> rfl
section
variable {W w : World} {R : List HP} {post : Ending → World → Prop}
set_option maxRecDepth 100000 in
theorem findH_c {p : KB} {k : ByteArray} (st : St W w R) (K : ∀ w', St W w' R → post (.returned (.int .i64 (cmpK p.1 k))) w') : Calls Tryz.prog 178 #[.agg (pbC p).toArray, .string k] w post := by
  have HK := hid K; clear K
  go_enter Tryz.func178, Tryz.ntmps178
  go_wp2_with (first
    | (refine wpl_boxA (vs := pbC p) rfl (.tmp 0) rfl rfl st ?_; rintro T w1 s1; have c0 : w1.cell? ⟨T, 0, none⟩ = some (.string p.1) := (by have := s1.rowCell (i := 0) (v := .string p.1) rfl; rwa [Nat.zero_add] at this))
    | (go_at_call 146; refine cmpK_c ?_))
  exact HK.out _ s1.drop

end
section
attribute [local go_sem ↓] execOp_ldAny
variable {W w : World} {R : List HP} {post : Ending → World → Prop}

set_option maxRecDepth 100000 in
set_option maxHeartbeats 4000000 in
theorem bsfB_c {a : Option Addr} {n c : Nat} {l : List KB} {k : ByteArray} (hp : Rds W R 2 a n c (tbC l)) (hs : BSrt l) (hn : n ≤ 4096) (st : St W w R)
    (K : ∀ w', St W w' R → post (.returned (.tuple #[.int .i64 (rankK kLt Prod.fst l k : Nat), .bool (bhas l k)])) w') :
    Calls Tryz.prog 177 #[.slice a n c, .string k, .func (.func 178) #[] #[]] w post := by
  have HK := hid K; clear K
  have HN : Hid (l.length = n) := hid (tbC_ln (hp w st))
  have hr : rankK kLt Prod.fst l k ≤ n := by rw [← HN.out]; exact rankK_le
  have HS := hid hs
  have HE : Hid (∀ i (h : i < l.length), i = rankK kLt Prod.fst l k → bhas l k = decide (l[i].1 = k)) := hid (fun i h e => by subst e; exact hasK_at kLt_ord hs h)
  have HD : Hid (¬ rankK kLt Prod.fst l k < l.length → bhas l k = false) := hid (hasK_end kLt_ord hs)
  have HL : Hid (∀ i (hi : i < l.length), i < rankK kLt Prod.fst l k → kLt l[i].1 k = true) := hid (fun i hi h => rankK_lt kLt_ord hs hi h)
  have HG : Hid (∀ i (hi : i < l.length), rankK kLt Prod.fst l k ≤ i → kLt l[i].1 k = false) := hid (fun i hi h => rankK_ge kLt_ord hs hi h)
  obtain ⟨r, hre⟩ : ∃ r, rankK kLt Prod.fst l k = r := ⟨_, rfl⟩
  rw [hre] at hr HK HL HG HD HE
  clear hre hs
  go_enter Tryz.func177, Tryz.ntmps177
  go_wp2_with fail
  go_loopw [9, 10] (fun ii jj wr => ∃ i j : Nat, i ≤ r ∧ r ≤ j ∧ j ≤ n ∧ ii = .int .i64 i ∧ jj = .int .i64 j ∧ St W wr R) (fun ii jj _ => (intOf jj).toNat - (intOf ii).toNat)
  case atStart => exact ⟨0, n, Nat.zero_le _, hr, Nat.le_refl _, rfl, rfl, st⟩
  case round =>
    obtain ⟨i, j, h1, h2, h3, rfl, rfl, sr⟩ := hrel
    have rd := hp _ sr
    by_cases hlt : i < j
    · obtain ⟨g3, o3, rfl⟩ := rd.addr (by omega)
      obtain ⟨m, hm⟩ : ∃ m, (i + j) / 2 = m := ⟨_, rfl⟩
      have hmI : ((i : Int) + (j : Int)) / 2 = (m : Int) := by omega
      have hmn : m < n := by omega
      have hiA : m < l.length := by rw [HN.out]; exact hmn
      have ci := tbC_ld rd hiA
      have HL1 := hid (HL.out m hiA); have HG1 := hid (HG.out m hiA)
      obtain ⟨q, hq⟩ : ∃ q, l[m] = q := ⟨_, rfl⟩
      rw [hq] at ci HL1 HG1
      clear hq rd
      cases hb : kLt q.1 k with
      | true =>
        have hv : decide (cmpK q.1 k < 0) = true := by rw [cmpK_lt, hb]
        have hmr : m < r := by
          rcases Nat.lt_or_ge m r with h | h
          · exact h
          · have := HG1.out h; rw [hb] at this; cases this
        obtain ⟨v, hve⟩ : ∃ v, cmpK q.1 k = v := ⟨_, rfl⟩
        have HV := hid hve
        rw [hve] at hv
        clear hve hb HL1 HG1
        go_wp2_with (go_at_call 178; refine findH_c sr ?_; rintro w6 s6; rw [HV.out])
        go_roundw
        case rel => exact ⟨m + 1, j, by omega, h2, h3, by go_num, rfl, s6⟩
        case measure => simp [intOf]; omega
      | false =>
        have hv : decide (cmpK q.1 k < 0) = false := by rw [cmpK_lt, hb]
        have hmr : r ≤ m := by
          rcases Nat.lt_or_ge m r with h | h
          · have := HL1.out h; rw [hb] at this; cases this
          · exact h
        obtain ⟨v, hve⟩ : ∃ v, cmpK q.1 k = v := ⟨_, rfl⟩
        have HV := hid hve
        rw [hve] at hv
        clear hve hb HL1 HG1
        go_wp2_with (go_at_call 178; refine findH_c sr ?_; rintro w6 s6; rw [HV.out])
        go_roundw
        case rel => exact ⟨i, m, h1, hmr, by omega, rfl, rfl, s6⟩
        case measure => simp [intOf]; omega
    · have e1 : i = r := by omega
      have e2 : j = r := by omega
      subst e1; subst e2
      by_cases hin : j < n
      · obtain ⟨g3, o3, rfl⟩ := rd.addr (by omega)
        have hiA : j < l.length := by rw [HN.out]; exact hin
        have ci := tbC_ld rd hiA
        have HE1 := hid (HE.out j hiA rfl)
        obtain ⟨q, hq⟩ : ∃ q, l[j] = q := ⟨_, rfl⟩
        rw [hq] at ci HE1
        clear hq rd
        obtain ⟨v, hve⟩ : ∃ v, cmpK q.1 k = v := ⟨_, rfl⟩
        have HV := hid hve
        have HZ : Hid ((v == 0) = bhas l k) := hid (by rw [HE1.out, ← hve, cmpK_zero])
        clear hve HE1
        have hin2 : (j : Int) < (n : Int) := by omega
        go_wp2_with (go_at_call 178; refine findH_c sr ?_; rintro w6 s6; rw [HV.out])
        have := HK.out _ s6
        rw [← HZ.out] at this
        exact this
      · have hout : bhas l k = false := HD.out (by rw [HN.out]; exact hin)
        have HO := hid hout
        clear hout rd
        have hin2 : ¬ (j : Int) < (n : Int) := by omega
        go_wp2_with fail
        have := HK.out _ sr
        rw [HO.out] at this
        exact this
end

/-- A table of bools. -/
def TabB (b o : Nat) (room : Int) (l : List KB) : HP := fun h => ∃ x : Option Addr × Nat × Nat, sepL [row b o [.int .i64 room, .slice x.1 x.2.1 x.2.2], OwnS 2 x.1 x.2.1 x.2.2 (tbC l)] h

section
variable {W w : World} {R : List HP} {post : Ending → World → Prop} {b o : Nat} {room : Int} {l : List KB} {k : ByteArray}

theorem TabB.open (st : St W w (TabB b o room l :: R)) : ∃ ao n c, St W w (row b o [.int .i64 room, .slice ao n c] :: OwnS 2 ao n c (tbC l) :: R) := by
  obtain ⟨x, s⟩ := St.ex (F := fun (x : Option Addr × Nat × Nat) h => sepL [row b o [.int .i64 room, .slice x.1 x.2.1 x.2.2], OwnS 2 x.1 x.2.1 x.2.2 (tbC l)] h) st
  exact ⟨_, _, _, (St.flat _).1 s⟩
theorem TabB.close {ao : Option Addr} {n c : Nat} (st : St W w (row b o [.int .i64 room, .slice ao n c] :: OwnS 2 ao n c (tbC l) :: R)) : St W w (TabB b o room l :: R) :=
  ((St.flat [row b o [.int .i64 room, .slice ao n c], OwnS 2 ao n c (tbC l)]).2 st).imp fun _ x => ⟨(ao, n, c), x⟩
set_option maxRecDepth 100000 in
theorem findB_c (hs : BSrt l) (hn : l.length ≤ 4096) (st : St W w (TabB b 0 room l :: R))
    (K : ∀ w', St W w' (TabB b 0 room l :: R) → post (.returned (.tuple #[.int .i64 (rankK kLt Prod.fst l k : Nat), .bool (bhas l k)])) w') :
    Calls Tryz.prog 147 #[.pointer (some ⟨b, 0, none⟩), .string k] w post := by
  have HK := hid K; clear K
  obtain ⟨ao, n, c, s⟩ := TabB.open st
  obtain ⟨h0, h1, _⟩ := rowTwo s
  rw [Nat.zero_add] at h1
  have hr : Rds W (row b 0 [.int .i64 room, .slice ao n c] :: OwnS 2 ao n c (tbC l) :: R) 2 ao n c (tbC l) := fun w' s' => OwnS.rd (St.pick 1 s')
  have hln : l.length = n := tbC_ln (hr w s)
  rw [hln] at hn
  clear hln
  have HR := hid hr
  clear hr
  go_enter Tryz.func147, Tryz.ntmps147
  go_wp2_with (go_at_call 177; refine bsfB_c HR.out hs hn s ?_; rintro w6 s6)
  exact HK.out _ (TabB.close s6)

theorem lenB_c (_hn : l.length ≤ 4096) (st : St W w (TabB b 0 room l :: R)) (K : post (.returned (.int .i64 (l.length : Nat))) w) : Calls Tryz.prog 95 #[.pointer (some ⟨b, 0, none⟩)] w post := by
  have HK := hid K; clear K
  obtain ⟨ao, n, c, s⟩ := TabB.open st
  obtain ⟨h0, h1, _⟩ := rowTwo s
  rw [Nat.zero_add] at h1
  have hln : l.length = n := tbC_ln (OwnS.rd (St.pick 1 s))
  rw [hln] at HK
  clear hln
  go_enter Tryz.func95, Tryz.ntmps95
  go_wp2_with fail
  exact HK.out

theorem tbC_app (a b : List KB) : tbC (a ++ b) = tbC a ++ tbC b := by simp [tbC]
theorem tbC_cons (x : KB) (b : List KB) : tbC (x :: b) = pbC x ++ tbC b := by simp [tbC]
theorem tbC_take {l : List KB} {r : Nat} (h : r ≤ l.length) : (tbC l).take (r * 2) = tbC (l.take r) := by
  have e : tbC l = tbC (l.take r) ++ tbC (l.drop r) := by rw [← tbC_app, List.take_append_drop]
  have hl : (tbC (l.take r)).length = r * 2 := by rw [tbC_sz, List.length_take]; omega
  rw [e, ← hl, List.take_left']
  rfl
theorem tbC_drop {l : List KB} {r : Nat} (h : r ≤ l.length) : (tbC l).drop (r * 2) = tbC (l.drop r) := by
  have e : tbC l = tbC (l.take r) ++ tbC (l.drop r) := by rw [← tbC_app, List.take_append_drop]
  have hl : (tbC (l.take r)).length = r * 2 := by rw [tbC_sz, List.length_take]; omega
  rw [e, ← hl, List.drop_left']
  rfl

theorem tbC_set {l : List KB} {r : Nat} {k : ByteArray} {x v : Bool} (h : l[r]? = some (k, x)) : (tbC l).set (r * 2 + 1) (.bool v) = tbC (l.set r (k, v)) := by
  obtain ⟨hr, he⟩ := List.getElem?_eq_some_iff.1 h
  have e1 : l = l.take r ++ (k, x) :: l.drop (r + 1) := by rw [← he, List.getElem_cons_drop, List.take_append_drop]
  have e2 : l.set r (k, v) = l.take r ++ (k, v) :: l.drop (r + 1) := by rw [List.set_eq_take_append_cons_drop, if_pos hr]
  have hl : (tbC (l.take r)).length = r * 2 := by rw [tbC_sz, List.length_take]; omega
  have e3 : tbC l = tbC (l.take r) ++ (.string k :: .bool x :: tbC (l.drop (r + 1))) := by
    conv => lhs; rw [e1]
    rw [tbC_app, tbC_cons]; rfl
  rw [e2, tbC_app, tbC_cons, e3, List.set_append_right _ _ (by omega), hl]
  simp [pbC]

theorem bget_has {l : List KB} {k : ByteArray} (hs : BSrt l) (h : bhas l k = true) : ∃ x : KB, l[rankK kLt Prod.fst l k]? = some x ∧ x.1 = k ∧ getK Prod.fst l k = some x := by
  obtain ⟨x, h1, h2, h3, _⟩ := rankK_has kLt_ord hs h
  exact ⟨x, h1, h2, h3⟩

set_option maxRecDepth 100000 in
set_option maxHeartbeats 1000000 in
/-- What a key has, where all that there is is true. -/
theorem getB_c (hs : BSrt l) (hn : l.length ≤ 4096) (hall : ∀ p ∈ l, p.2 = true) (st : St W w (TabB b 0 room l :: R))
    (K : ∀ w', St W w' (TabB b 0 room l :: R) → post (.returned (.tuple #[.bool (bhas l k), .bool (bhas l k)])) w') :
    Calls Tryz.prog 94 #[.pointer (some ⟨b, 0, none⟩), .string k] w post := by
  have HK := hid K; clear K
  obtain ⟨r, hre⟩ : ∃ r, rankK kLt Prod.fst l k = r := ⟨_, rfl⟩
  have HR := hid hre
  cases hh : bhas l k with
  | true =>
    obtain ⟨x, hx1, hx2, hx3⟩ := bget_has hs hh
    have hx4 : x.2 = true := hall x (getK_some hx3).1
    rw [hh] at HK
    rw [hre] at hx1
    have HX := hid hx1
    have HH := hid hh
    have HT := hid hx4
    clear hre hx1 hx2 hx3 hh hall hx4
    go_enter Tryz.func94, Tryz.ntmps94
    go_wp2_with (go_at_call 147; go_loud (
      refine findB_c hs hn st ?_
      rintro w3 s3
      rw [HR.out, HH.out]
      obtain ⟨ao, n, c, s4⟩ := TabB.open s3
      obtain ⟨h0, h1, _⟩ := rowTwo s4
      rw [Nat.zero_add] at h1
      have rd := OwnS.rd (St.pick 1 s4)
      have hln := tbC_ln rd
      have hrn : r < n := by rw [← hln]; exact (List.getElem?_eq_some_iff.1 HX.out).1
      obtain ⟨g, o, rfl⟩ := rd.addr (by omega)
      have hc : w3.cell? ⟨g, o + r * 2 + 1, none⟩ = some (.bool true) := (by
        have h9 := List.getElem?_eq_some_iff.1 HX.out
        have := rd.at2 (i := r * 2) (j := 1) (u := .bool x.2) (tbC_get (j := 1) h9.1 (by rw [h9.2]; rfl))
        rwa [HT.out] at this)
      clear rd hln))
    exact HK.out _ (TabB.close s4)
  | false =>
    rw [hh] at HK
    have HH := hid hh
    clear hre hh hall
    go_enter Tryz.func94, Tryz.ntmps94
    go_wp2_with (go_at_call 147; refine findB_c hs hn st ?_; rintro w3 s3; rw [HR.out, HH.out])
    exact HK.out _ s3

def bput (l : List KB) (k : ByteArray) (v : Bool) : List KB := putK kLt Prod.fst l (k, v)

set_option maxRecDepth 100000 in
set_option maxHeartbeats 4000000 in
theorem putB_old {v : Bool} (hs : BSrt l) (hn : l.length ≤ 4096) (hh : bhas l k = true) (st : St W w (TabB b 0 room l :: R))
    (K : ∀ w', St W w' (TabB b 0 room (bput l k v) :: R) → post (.returned (.int .i64 0)) w') :
    Calls Tryz.prog 166 #[.pointer (some ⟨b, 0, none⟩), .string k, .bool v] w post := by
  have HK := hid K; clear K
  obtain ⟨r, hre⟩ : ∃ r, rankK kLt Prod.fst l k = r := ⟨_, rfl⟩
  have HR := hid hre
  obtain ⟨⟨k', x⟩, hx1, hx2, hx3⟩ := bget_has hs hh
  have hx2' : k' = k := hx2
  subst hx2'
  rw [hre] at hx1
  have HX := hid hx1
  have HP : Hid (l.set r (k', v) = bput l k' v) := hid (by rw [← hre]; exact putK_old kLt_ord hs (k', v) hh)
  have HH := hid hh
  clear hre hx1 hx2 hx3 hh
  go_enter Tryz.func166, Tryz.ntmps166
  go_wp2_with (go_at_call 147; refine findB_c hs hn st ?_; rintro w3 s3; rw [HR.out, HH.out]
               obtain ⟨ao, n, c, s4⟩ := TabB.open s3
               have rd := OwnS.rd (St.pick 1 s4)
               have hln := tbC_ln rd
               have hrl := (List.getElem?_eq_some_iff.1 HX.out).1
               have hrn : r < n := by rw [← hln]; exact hrl
               obtain ⟨g, o, rfl⟩ := rd.addr (by omega)
               obtain ⟨c0, c1, _⟩ := rowTwo s4
               rw [Nat.zero_add] at c1
               have hq : r * 2 + 1 < (tbC l).length := (by rw [tbC_sz]; omega)
               obtain ⟨u9, u0, f0, s5⟩ := OwnS.setAt (St.pick 1 s4) hq (.bool v) rfl
               rw [← Nat.add_assoc] at u0 f0 s5
               rw [tbC_set HX.out, HP.out] at s5
               clear rd hln hrl)
  exact HK.out _ (TabB.close (s5.pick 1))

set_option maxRecDepth 100000 in
set_option maxHeartbeats 4000000 in
theorem putB_full {v : Bool} (hs : BSrt l) (hn : l.length ≤ 4096) (hh : bhas l k = false) (hr : (l.length : Int) = room) (st : St W w (TabB b 0 room l :: R))
    (K : ∀ w', St W w' (TabB b 0 room l :: R) → post (.returned (.int .i64 7)) w') :
    Calls Tryz.prog 166 #[.pointer (some ⟨b, 0, none⟩), .string k, .bool v] w post := by
  have HK := hid K; clear K
  have HH := hid hh
  clear hh
  go_enter Tryz.func166, Tryz.ntmps166
  go_wp2_with (go_at_call 147; refine findB_c hs hn st ?_; rintro w3 s3; rw [HH.out])
  obtain ⟨ao, n, c, s4⟩ := TabB.open s3
  have hln : l.length = n := tbC_ln (OwnS.rd (St.pick 1 s4))
  rw [hln] at hr
  have hb : ((n : Int) == room) = true := by rw [hr]; exact beq_self_eq_true _
  obtain ⟨c0, c1, _⟩ := rowTwo s4
  rw [Nat.zero_add] at c1
  clear hr hln
  go_quiet (fail)
  go_wp2_with fail
  exact HK.out _ ((TabB.close s4).drewN nq)

set_option maxRecDepth 100000 in
set_option maxHeartbeats 4000000 in
theorem putB_new {v : Bool} (hs : BSrt l) (hn : l.length ≤ 4095) (hh : bhas l k = false) (hr : ¬ (l.length : Int) = room) (st : St W w (TabB b 0 room l :: R))
    (K : ∀ w', St W w' (TabB b 0 room (bput l k v) :: R) → post (.returned (.int .i64 0)) w') :
    Calls Tryz.prog 166 #[.pointer (some ⟨b, 0, none⟩), .string k, .bool v] w post := by
  have HK := hid K; clear K
  have HH := hid hh
  clear hh
  go_enter Tryz.func166, Tryz.ntmps166
  go_wp2_with (go_at_call 147; refine findB_c hs (by omega) st ?_; rintro w3 s3; rw [HH.out])
  obtain ⟨ao, n, c, s4⟩ := TabB.open s3
  have hln : l.length = n := tbC_ln (OwnS.rd (St.pick 1 s4))
  rw [hln] at hr
  have hb : ((n : Int) == room) = false := by simp [hr]
  obtain ⟨c0, c1, _⟩ := rowTwo s4
  rw [Nat.zero_add] at c1
  obtain ⟨r, hre⟩ : ∃ r, rankK kLt Prod.fst l k = r := ⟨_, rfl⟩
  have hrn : r ≤ n := by rw [← hln, ← hre]; exact rankK_le
  have HP : Hid ((tbC l).take (r * 2) ++ pbC (k, v) ++ (tbC l).drop (r * 2) = tbC (bput l k v)) := hid (by
    have hrl : r ≤ l.length := by omega
    have h9 := putK_new kLt_ord hs (k, v) HH.out
    have h9' : l.take r ++ [(k, v)] ++ l.drop r = bput l k v := by rw [← hre]; exact h9
    rw [← h9', tbC_take hrl, tbC_drop hrl, tbC_app, tbC_app, tbC_cons]; simp [tbC])
  rw [hre]
  have hn4 : n ≤ 4095 := by omega
  clear hr hln hre
  go_quiet (fail)
  have s6 := s4.drewN nq
  clear c0 c1
  generalize w3.drewN nq = w4 at s6 ⊢
  obtain ⟨c0, c1, c2⟩ := rowTwo s6
  rw [Nat.zero_add] at c1 c2
  have s7 : St W _ (row w4.heap.size 0 (pbC (k, v)) :: _) := s6.alloc (pbC (k, v)).toArray 256
  have hv := heap_alloc_new w4 (.cells (pbC (k, v)).toArray 256)
  have s8 := s7.perm [2, 0]
  go_wp2_with (go_at_call 196; go_loud (refine insB_c s8 hv rfl rfl (pb_one _) hrn (by omega) ?_; rintro a9 c9 w9 s9; rw [HP.out] at s9; obtain ⟨k0, k1, k2⟩ := rowTwo (St.pick 1 s9); rw [Nat.zero_add] at k1 k2))
  have sA := (St.pick 1 s9).rowSet (i := 1) (by simp) (.slice a9 (n + 1) c9)
  rw [Nat.zero_add] at sA
  have sB : St W _ (row b 0 [.int .i64 room, .slice a9 (n + 1) c9] :: OwnS 2 a9 (n + 1) c9 (tbC (bput l k v)) :: R) := sA
  exact HK.out _ (TabB.close sB)
end
end Go.Proofs.YtojfjbbggpfijaaGreatDoor
