/- Rngs: several texts, joined. A table's keys and entries, gone through: All; Entries; the graves' All. -/
import Derived.Test.YtggbeedghblakaaGreatDoorTabX
import Derived.Test.YtggbeedghblakaaGreatDoorAggI
import Derived.Test.YtggbeedghblakaaGreatDoorMarks
import Derived.Shelf.Abstract
import Derived.Test.YtggbeedghblakaaGreatDoorRepsM
namespace Go.Proofs.YtggbeedghblakaaGreatDoor
open Go.RowKit Go.Shelf Go.Qd

attribute [local go_sem] Oper.semAt_some

def keV (x : KE) : Array Value := #[.string x.1, .agg x.2.cells.toArray]
theorem zero_pe (w : World) : (zeroValue 169).run Tryz.prog w = .ok (.agg (peC (ByteArray.empty, EnV.zero)).toArray) w := by kernel_rfl
theorem take_snoc {α : Type} {l : List α} {k : Nat} (h : k < l.length) : l.take k ++ [l[k]] = l.take (k + 1) := (List.take_succ_eq_append_getElem h).symm

set_option maxRecDepth 100000 in
set_option maxHeartbeats 4000000 in
theorem allE1_in (F : Fence) (n : Nat) (hf : F.fn 134) (hro : F.round = none) (hn : 1 ≤ n) (l Bs tb n₀ : Nat) (ao : Option Addr) (len cap : Nat) (kl : List KE) (hle : len ≤ 4096) (J Jx : List KE → World → Prop)
    (W : World) (hJ : AbidesFrom W.heap.size J)
    (hY : ∀ pre x W1, J pre W1 → pre.length < len → YieldAt F (n - 1) Tryz.prog l (keV x) W1 fun e W' =>
      (e = .returned (.bool true) ∧ J (pre ++ [x]) W' ∧ Below n₀ W1 W') ∨ (e = .returned (.bool false) ∧ Jx (pre ++ [x]) W'))
    (hn₀ : n₀ ≤ W.heap.size) (h0 : W.cell? ⟨Bs, 0, none⟩ = some (.pointer (some ⟨tb, 0, none⟩))) (h1 : W.cell? ⟨tb, 1, none⟩ = some (.slice ao len cap)) (rd : RdS W 10 ao len cap (tabC kl)) (hlo : 0 < (tabC kl).length → ∀ a, ao = some a → a.block < n₀) (hj : J [] W) :
    CallsIn F n Tryz.prog 134 #[.func (.yield l) #[] #[], .pointer (some ⟨Bs, 0, none⟩)] W fun e W' => (∃ v, e = .returned v) ∧ (J kl W' ∨ ∃ pre, pre <+: kl ∧ Jx pre W') := by
  have HN : Hid (kl.length = len) := hid (tabC_ln rd)
  refine callsIn_of_wp Tryz.func134 rfl hf ?_ hro
  simp only [Tryz.ntmps134, List.size_toArray, List.length_cons, List.length_nil, Nat.reduceAdd, Nat.reduceSub, Array.replicate_succ, Array.replicate_zero, List.push_toArray, List.append_toArray, List.nil_append, List.cons_append]
  gi_wp2
  gi_loopw [10] (fun i wr => ∃ k : Nat, k ≤ len ∧ i = .int .i64 k ∧ J (kl.take k) wr ∧ Below n₀ W wr) (fun i _ => len - (intOf i).toNat)
  case atStart => exact ⟨0, Nat.zero_le _, rfl, by simpa using hj, Below.refl _ _⟩
  case round =>
    obtain ⟨k, hk, rfl, hJs, hnx⟩ := hrel
    by_cases hlt : k < len
    · have hkA : k < kl.length := by rw [HN.out]; exact hlt
      have rdr := rd.at0 hlo hnx
      obtain ⟨g, o, rfl⟩ := rdr.addr (by omega)
      have hsn := take_snoc hkA
      have hlk : (kl.take k).length = k := by rw [List.length_take]; omega
      have hcel : ∀ j u, (peC kl[k])[j]? = some u → wr.cell? ⟨g, o + k * 10 + j, none⟩ = some u := fun j u hu => rdr.at2 (tabC_get hkA hu)
      obtain ⟨x, hx⟩ : ∃ x, kl[k] = x := ⟨_, rfl⟩
      rw [hx] at hsn hcel
      have HSN := hid hsn
      have hk2 : (k : Int) < (len : Int) := by omega
      have hsz : W.heap.size ≤ wr.heap.size := hnx.size
      -- the pair's box
      obtain ⟨W2, hW2⟩ : ∃ W2, (wr.alloc (.cells (peC (ByteArray.empty, EnV.zero)).toArray 169)).setCells wr.heap.size 0 (peC x) = W2 := ⟨_, rfl⟩
      have hg2 : wr.grownBy W2 none := by rw [← hW2]; exact new_grown wr _
      have hJ2 : J (kl.take k) W2 := hJ _ _ _ none hJs hg2 (fun r e => by cases e)
      have hn2 : Below n₀ W W2 := hnx.grown hg2 (by omega) (fun _ e => by cases e)
      have hcx := new_cells (vs := peC (ByteArray.empty, EnV.zero)) (us := peC x) wr 169 rfl
      rw [hW2] at hcx
      have c0 := hcx 0 _ rfl
      obtain ⟨fn, tmps, assign, body, hy, hR⟩ := hY _ x W2 hJ2 (by rw [hlk]; exact hlt)
      dsimp only [keV] at hy
      clear hsn hx
      gi_wp2_with (first
        | (refine wplI_loadA rfl (.tmp 12) (by rfl) agg_pe (by rfl) rfl hcel ?_)
        | (refine wplI_allocA rfl rfl zero_pe ?_)
        | (refine wplI_storeA rfl (.tmp 4) (.tmp 13) (by rfl) agg_pe (by rfl) (by rfl) (new_room wr _ rfl) ⟨rfl, pe_one x⟩ ?_; rw [hW2])
        | (refine wplI_loadA rfl (.tmp 17) (vs := x.2.cells) (by rfl) agg_en (by rfl) rfl (fun j u hu => hcx (1 + j) u (by rw [Nat.add_comm]; exact hu)) ?_))
      refine hR.mono ?_
      rintro e W3 (⟨rfl, hJ3, hk3⟩ | ⟨rfl, hJx3⟩)
      · gi_wp2
        go_roundw
        case rel => exact ⟨k + 1, by omega, by go_num, by rw [← HSN.out]; exact hJ3, hn2.trans hk3⟩
        case measure => simp [intOf]; omega
      · gi_wp2
        refine bodyPost_ret (results_none rfl _ _ _) rfl ?_
        exact ⟨⟨_, rfl⟩, .inr ⟨_, List.take_prefix (k + 1) kl, by rw [← HSN.out]; exact hJx3⟩⟩
    · obtain rfl : k = len := by omega
      rw [List.take_of_length_le (by rw [HN.out]; exact Nat.le_refl _)] at hJs
      gi_wp2
      go_end0
      exact ⟨⟨_, rfl⟩, .inl hJs⟩

theorem allE_stops (F : Fence) (n : Nat) (hf : F.fn 134) (hro : F.round = none) (hn : 1 ≤ n) (Bs tb n₀ : Nat) (ao : Option Addr) (len cap : Nat) (kl : List KE) (hle : len ≤ 4096) (w : World)
    (hn₀ : n₀ ≤ w.heap.size) (h0 : w.cell? ⟨Bs, 0, none⟩ = some (.pointer (some ⟨tb, 0, none⟩))) (h1 : w.cell? ⟨tb, 1, none⟩ = some (.slice ao len cap)) (rd : RdS w 10 ao len cap (tabC kl)) (hlo : 0 < (tabC kl).length → ∀ a, ao = some a → a.block < n₀) :
    SeqStopsK F n Tryz.prog 134 #[.pointer (some ⟨Bs, 0, none⟩)] keV (Below n₀) (fun ys => ys = kl) (fun pre => pre <+: kl) len w := fun l J Jx W hW hJ _ hY hj => by
  have hW' : Below n₀ w W := hW.mono hn₀
  refine (allE1_in F n hf hro hn l Bs tb n₀ ao len cap kl hle J Jx W hJ hY (Nat.le_trans hn₀ hW.size) ((hW.cell (World.block_lt_of_cell? w _ h0)).trans h0) ((hW.cell (World.block_lt_of_cell? w _ h1)).trans h1) (rd.at0 hlo hW') hlo hj).mono ?_
  rintro e W' ⟨he, hj | ⟨pre, hp, hj⟩⟩
  · exact ⟨he, .inl ⟨_, rfl, hj⟩⟩
  · exact ⟨he, .inr ⟨_, hp, hj⟩⟩

theorem allE_in (F : Fence) (n : Nat) (hf : F.fn 80) (hro : F.round = none) (tb : Nat) (w : World) :
    CallsIn F n Tryz.prog 80 #[.pointer (some ⟨tb, 0, none⟩)] w fun e W' => e = .returned (.func (.func 134) #[] #[.pointer (some ⟨w.heap.size, 0, none⟩)]) ∧ W' = w.alloc (.cells #[.pointer (some ⟨tb, 0, none⟩)] 77) := by
  refine callsIn_of_wp Tryz.func80 rfl hf ?_ hro
  simp only [Tryz.ntmps80, List.size_toArray, List.length_cons, List.length_nil, Nat.reduceAdd, Nat.reduceSub, Array.replicate_succ, Array.replicate_zero, List.push_toArray, List.append_toArray, List.nil_append, List.cons_append]
  gi_wp2
  go_ret
  exact ⟨rfl, rfl⟩

def bsG (t : TypeId) (x : Value) : Sem Value := Instr.buildSlice t 1 #[(0, x)]
theorem execOp_bsE (ρ : Operand → Value) (dst : Option Tmp) (a : Operand) (ty : TypeId) (pos : String) (after : Array Edge) (guard : Option (Nat × Bool)) :
    execOp ρ { dst, op := .buildSlice 48 1 #[(0, a)], type := ty, pos, after, guard } = (do pure (.value (← bsG 48 (ρ a)))) := by simp [execOp, bsG]
theorem run_bsE (x : EnV) (w : World) : (bsG 48 (.agg x.cells.toArray)).run Tryz.prog w = .ok (.slice (some ⟨w.heap.size, 0, none⟩) 1 1) (w.alloc (.cells x.cells.toArray 39)) := by kernel_rfl
theorem execOp_stEn (ρ : Operand → Value) (dst : Option Tmp) (a x : Operand) (ty : TypeId) (pos : String) (after : Array Edge) (guard : Option (Nat × Bool)) :
    execOp ρ { dst, op := .store 39 a x, type := ty, pos, after, guard } = (do storeG 39 (ρ a) (ρ x); pure .skip) := rfl
theorem infoEn : (Tryz.prog.info? 39).map (fun i => (i.zero, i.size, i.bytes)) = some (some (.agg EnV.zero.cells.toArray), 9, 88) := by kernel_rfl
def ke2 (l : List KE) : List Value := enC (l.map (·.2))
theorem ke2_len (l : List KE) : (ke2 l).length = l.length * 9 := by
  unfold ke2
  have : ∀ l : List EnV, (enC l).length = l.length * 9 := fun l => by
    induction l with
    | nil => rfl
    | cons x l ih => show (x.cells ++ enC l).length = _; rw [List.length_append, ih, List.length_cons]; simp [EnV.cells]; omega
  rw [this, List.length_map]
theorem ke2_snoc (l : List KE) (x : KE) : ke2 (l ++ [x]) = ke2 l ++ x.2.cells := by simp [ke2, enC]

section
attribute [local go_sem ↓] execOp_bsE execOp_stEn
attribute [local go_sem] run_bsE
set_option maxRecDepth 100000 in
set_option maxHeartbeats 4000000 in
theorem entries_in (F : Fence) (n : Nat) (h2 : F.fn 23) (h3 : F.fn 80) (h4 : F.fn 134) (hro : F.round = none) (hn : 4 ≤ n)
    (p tb : Nat) (ao : Option Addr) (len cap : Nat) (kl : List KE) (hle : len ≤ 4096) (w : World)
    (hp : w.cell? ⟨p, 7, none⟩ = some (.pointer (some ⟨tb, 0, none⟩))) (ht : w.cell? ⟨tb, 1, none⟩ = some (.slice ao len cap)) (rd : RdS w 10 ao len cap (tabC kl)) (hlo : 0 < (tabC kl).length → ∀ a, ao = some a → a.block < w.heap.size) :
    CallsIn F n Tryz.prog 23 #[.pointer (some ⟨p, 0, none⟩)] w fun e W' => ∃ v, e = .returned v ∧ W'.ownsRow w.heap.size 39 9 v len (ke2 kl) ∧ Below w.heap.size w W' := by
  have h1 : 1 ≤ n := by omega
  have HN : Hid (kl.length = len) := hid (tabC_ln rd)
  obtain ⟨i0, hi, hz0, hz1, hz2⟩ := info_parts infoEn
  have htl : tb < w.heap.size := World.block_lt_of_cell? w _ ht
  have hpl : p < w.heap.size := World.block_lt_of_cell? w _ hp
  refine callsIn_of_wp_marks Tryz.func23 rfl h2 ?_ hro
  simp only [Tryz.ntmps23, List.size_toArray, List.length_cons, List.length_nil, Nat.reduceAdd, Nat.reduceSub, Array.replicate_succ, Array.replicate_zero, List.push_toArray, List.append_toArray, List.nil_append, List.cons_append]
  gi_wp2_with (gi_at_call 80; refine (allE_in F (n - 1) h3 hro tb _).mono ?_; rintro e w' ⟨rfl, rfl⟩)
  have bO := Boxed.new w 48 (.slice none 0 0)
  have hB0 : Below w.heap.size w (w.alloc (.cells #[.slice none 0 0] 48)) := (Below.refl _ w).alloc (Nat.le_refl _) _
  have hB1 : Below w.heap.size w ((w.alloc (.cells #[.slice none 0 0] 48)).alloc (.cells #[.pointer (some ⟨tb, 0, none⟩)] 77)) := hB0.alloc (by simp) _
  have bO1 := bO.alloc (.cells #[.pointer (some ⟨tb, 0, none⟩)] 77)
  have bP := (Boxed.new (w.alloc (.cells #[.slice none 0 0] 48)) 77 (.pointer (some ⟨tb, 0, none⟩))).cell
  rw [World.size_alloc] at bP
  obtain ⟨W0, hW0⟩ : ∃ W0, (w.alloc (.cells #[.slice none 0 0] 48)).alloc (.cells #[.pointer (some ⟨tb, 0, none⟩)] 77) = W0 := ⟨_, rfl⟩
  have hsz : W0.heap.size = w.heap.size + 2 := by rw [← hW0]; simp
  rw [hW0] at hB1 bO1 bP ⊢
  have htW : W0.cell? ⟨tb, 1, none⟩ = some (.slice ao len cap) := (hB1.cell (p := ⟨tb, 1, none⟩) htl).trans ht
  refine wpIn_rangeFunc_ownH hro h1 (gf := 134) (lb := #[.pointer (some ⟨w.heap.size + 1, 0, none⟩)]) rfl h4 (enters_of Tryz.func134 (by kernel_rfl) rfl)
    (allE_stops F (n - 1) h4 hro (by omega) (w.heap.size + 1) tb w.heap.size ao len cap kl hle W0 (by omega) bP htW (rd.at0 hlo hB1) hlo) belowK_t (belowK_b (by omega)) (Below.refl _ _) (fun _ => rfl)
    (fun pre W => (∃ v, Boxed W w.heap.size 48 v ∧ W.ownsRow w.heap.size 39 9 v pre.length (ke2 pre) ∧ (v = .slice none 0 0 ↔ pre = [])) ∧ Below w.heap.size w W)
    (fun _ _ _ => False)
    (OwnFrom.and (Own.from (holdsRow_own w.heap.size w.heap.size 48 39 9 (fun pre => pre.length) ke2 (fun pre v => v = .slice none 0 0 ↔ pre = [])) _) (ownFrom_below (by omega) (by omega)))
    (fun _ _ _ _ _ hs _ _ => hs)
    ⟨⟨_, bO1, World.ownsRow_nil _ _ _ _, by simp⟩, hB1⟩
    (fun x a' W => ∃ Bx, w.heap.size < Bx ∧ (∀ j u, x.2.cells[j]? = some u → W.cell? ⟨Bx, 0 + j, none⟩ = some u) ∧ a' = { tmps := #[.pointer (some ⟨p, 0, none⟩), undef, .slice none 0 0, .pointer (some ⟨w.heap.size, 0, none⟩), undef, .pointer (some ⟨Bx, 0, none⟩), .pointer (some ⟨p, 0, none⟩), .pointer (some ⟨p, 0, none⟩), .pointer (some ⟨p, 7, none⟩), .pointer (some ⟨tb, 0, none⟩), .func (.func 134) #[] #[.pointer (some ⟨w.heap.size + 1, 0, none⟩)], .string x.1, .agg x.2.cells.toArray, undef, undef, undef, undef, undef], defers := [] })
    (fun x a' => Own.from (fun s A B row hs hg hr => by obtain ⟨Bx, h1, h2, h3⟩ := hs; exact ⟨Bx, h1, fun j u hu => cell_kept (h2 j u hu) hg hr, h3⟩) _)
    ?assign ?body ?done ?stop
  case assign =>
    rintro l pre x W K ⟨⟨v, hv, hrow, hnil⟩, hB⟩ hK
    obtain ⟨W2, hW2⟩ : ∃ W2, (W.alloc (.cells EnV.zero.cells.toArray 39)).setCells W.heap.size 0 x.2.cells = W2 := ⟨_, rfl⟩
    have hg2 : W.grownBy W2 none := by rw [← hW2]; exact new_grown W _
    have hcx := new_cells (vs := EnV.zero.cells) (us := x.2.cells) W 39 rfl
    rw [hW2] at hcx
    have hk2 : KeepsOthers W W2 := by rw [← hW2]; exact (KeepsOthers.alloc W _).trans (keeps_setCells _ _ _ _)
    have hlt := hv.lt
    dsimp only [keV]
    have rS := run_storeG agg_en (new_room W 39 (vs := EnV.zero.cells) (n := 9) rfl) (⟨rfl, env_one x.2⟩ : oneG x.2.cells 9)
    rw [hW2] at rS
    gi_wp2_with (refine wplI_allocA rfl rfl zero_en ?_)
    exact hK _ _ (hk2.from _) ((Below.refl _ W).grown hg2 hB.size (fun _ e => by cases e)) ⟨⟨v, hv.kept hg2 (by simp), hrow.kept hg2 (by cases v.ownBlock <;> simp), hnil⟩, hB.grown hg2 hB.size (fun _ e => by cases e)⟩ ⟨W.heap.size, hlt, fun j u hu => by rw [Nat.zero_add]; exact hcx j u hu, rfl⟩
  case body =>
    rintro l pre x a' W hl _ ⟨⟨v, hv, hrow, hnil⟩, hB⟩ ⟨Bx, hBx, hcx, rfl⟩ hlt
    have hc := hv.cell
    have HP : Hid (ke2 pre ++ x.2.cells = ke2 (pre ++ [x])) := hid (ke2_snoc pre x).symm
    have hnew : ∀ j u, x.2.cells[j]? = some u → (W.alloc (.cells x.2.cells.toArray 39)).cell? ((⟨W.heap.size, 0, none⟩ : Addr).add j) = some u := fun j u hu => by
      rw [add_plain', (cell_of_heap (World.alloc_heap_new W _)).1, Nat.zero_add, List.getElem?_toArray]; exact hu
    gi_wp2_with (first
      | (refine wplI_loadA rfl (.tmp 5) (by rfl) agg_en (by rfl) rfl hcx ?_)
      | (gi_at_builtin; go_loud (refine wpListIn_append_own _ rfl _ _ 48 rfl w.heap.size 39 i0 (.agg EnV.zero.cells.toArray) 9 88 Tryz.underlying48 hi hz0 hz1 hz2 rfl (by decide) _ _ _ rfl (hrow.alloc _) ⟨W.heap.size, 0, none⟩ 1 1 x.2.cells rfl rfl hnew (env_one x.2) (by unfold maxLen; omega) (by omega) (by have := hB.size; simp; omega) ?_; intro v' w1 hown' hgrow _; obtain ⟨g', cap', rfl⟩ := ownsRow_succ hown'; obtain ⟨hv1, hv2, hr2, hk2, hb2⟩ := hv.appended (by decide) hrow hB.size (Nat.le_refl _) hown' hgrow; have hc1 := hv1.cell; have hf1 := hv1.frozen)))
    rw [HP.out] at hr2
    exact ⟨hk2.from _, hb2, ⟨_, hv2, by simpa using hr2, by simp⟩, hB.trans hb2⟩
  case done =>
    rintro D ys W hD rfl ⟨⟨v, hv, hrow, hnil⟩, hB⟩ hK
    have hc := hv.cell
    gi_wp2
    refine ⟨by simp, .inl ⟨_, _, rfl, run_takeDeferred hK, ?_⟩⟩
    have hrow' := ownsRow_putObj hrow (.deferred none) hK rfl
    rw [HN.out] at hrow'
    exact ⟨_, results_tmp rfl _ _ _, v, rfl, hrow', hB.trans (belowK_b (w := w) (Nat.le_refl _) W D _ _ (by omega) hK rfl rfl)⟩
  case stop =>
    rintro D c pre W _ _ h _
    exact h.elim
end
end Go.Proofs.YtggbeedghblakaaGreatDoor

/- The replica's Entry, Entries, Sum, Now. -/
namespace Go.Proofs.YtggbeedghblakaaGreatDoor
open Go.RowKit Go.Qd RepV

section
attribute [local go_sem ↓] execOp_ldAny
variable {W w : World} {R : List HP} {post : Ending → World → Prop} {A : RAd} {r : RepV}

set_option maxRecDepth 100000 in
set_option maxHeartbeats 2000000 in
theorem entry_c {k : ByteArray} (h : RepOK r) (st : St W w (RepA A r :: R)) (K : ∀ w', St W w' (RepA A r :: R) → post (.returned (.tuple #[.agg (tget r.tab k).cells.toArray, .bool (thas r.tab k)])) w') :
    Calls Tryz.prog 19 #[.pointer (some ⟨A.p, 0, none⟩), .string k] w post := by
  have HK := hid K; clear K
  have hl : r.tab.length ≤ 4096 := by have := h.len; have := h.room; omega
  have HH := hid h; have HL := hid hl
  clear h hl
  obtain ⟨x, hx⟩ : ∃ x, tget r.tab k = x := ⟨_, rfl⟩
  obtain ⟨b, hb⟩ : ∃ b, thas r.tab k = b := ⟨_, rfl⟩
  have HX := hid hx; have HB := hid hb
  rw [hx, hb] at HK
  clear hx hb
  go_enter Tryz.func19, Tryz.ntmps19
  go_wp2_with (first
    | (refine wpl_allocA rfl rfl zero_en st ?_; rintro T w1 s1; have l7 := (repLd (St.pick 1 s1)).2.1)
    | (go_at_call 70; refine getE_c HH.out.tab HL.out (St.pick 2 (RepA.open.1 (St.pick 1 s1))) ?_; rintro w3 s3; rw [HX.out, HB.out]; have s4 : St W w3 (RepA A r :: row T 0 EnV.zero.cells :: R) := RepA.open.2 (s3.perm [1, 1]))
    | (refine wpl_storeA (vs := x.cells) rfl (.tmp 4) (.tmp 12) (by rfl) agg_en (by rfl) (by rfl) rfl (env_one _) (St.pick 1 s4) rfl ?_; rintro w5 s5))
  have hL := run_loadA agg_en (vs := x.cells) rfl s5.rowAll
  exact bodyPost_ret (v := .tuple #[.agg x.cells.toArray, .bool b]) (by simp [results, Tryz.results19, asAddr, hL]) rfl (HK.out _ s5.drop)

theorem tabE_rd {tb : Nat} {room : Int} {l : List KE} (s : St W w (TabE tb 0 room l :: R)) : ∃ ao n c, w.cell? ⟨tb, 1, none⟩ = some (.slice ao n c) ∧ RdS w 10 ao n c (tabC l) := by
  obtain ⟨ao, n, c, s⟩ := TabE.open s
  obtain ⟨_, h1, _⟩ := rowTwo s
  exact ⟨ao, n, c, by simpa using h1, OwnS.rd (St.pick 1 s)⟩
set_option maxRecDepth 100000 in
/-- All entries. -/
theorem entries_c (h : RepOK r) (st : St W w (RepA A r :: R)) (K : ∀ a n c w', n = r.tab.length → St W w' (OwnS 9 a n c (ke2 r.tab) :: RepA A r :: R) → post (.returned (.slice a n c)) w') :
    Calls Tryz.prog 23 #[.pointer (some ⟨A.p, 0, none⟩)] w post := by
  have hl : r.tab.length ≤ 4096 := by have := h.len; have := h.room; omega
  have c7 := (repPtr (RepA.open.1 st)).2.1
  obtain ⟨ao, n, c, ht, rd⟩ := tabE_rd (St.pick 2 (RepA.open.1 st))
  have hn := tabC_ln rd
  have hlo : 0 < (tabC r.tab).length → ∀ a, ao = some a → a.block < w.heap.size := rd.low
  refine (callsIn_wide.1 (entries_in Fence.wide 4 trivial trivial trivial rfl (Nat.le_refl _) A.p A.tb ao n c r.tab (by omega) w c7 ht rd hlo)).mono ?_
  rintro e w' ⟨v, rfl, hrow, hb⟩
  obtain ⟨ao', c', rfl, s'⟩ := st.ofRow hb hrow (by rw [ke2_len, hn]) (fun u hu => by
    unfold ke2 at hu
    obtain ⟨cs, hc, hu⟩ := List.mem_flatten.1 hu
    obtain ⟨y, _, rfl⟩ := List.mem_map.1 hc
    exact env_one y u hu)
  exact K ao' n c' w' hn.symm s'
end
end Go.Proofs.YtggbeedghblakaaGreatDoor

/- The graves: All, Graves. Printed by mkRngG.py. -/
namespace Go.Proofs.YtggbeedghblakaaGreatDoor
open Go.RowKit Go.Shelf Go.Qd RepV

section
attribute [local go_sem] Oper.semAt_some
section
attribute [local go_sem ↓] execOp_bsE execOp_stEn
attribute [local go_sem] run_bsE
set_option maxRecDepth 100000 in
set_option maxHeartbeats 4000000 in
theorem gall_in (F : Fence) (n : Nat) (h2 : F.fn 96) (h3 : F.fn 80) (h4 : F.fn 134) (hro : F.round = none) (hn : 4 ≤ n)
    (p tb : Nat) (ao : Option Addr) (len cap : Nat) (kl : List KE) (hle : len ≤ 4096) (w : World)
    (hp : w.cell? ⟨p, 0, none⟩ = some (.pointer (some ⟨tb, 0, none⟩))) (ht : w.cell? ⟨tb, 1, none⟩ = some (.slice ao len cap)) (rd : RdS w 10 ao len cap (tabC kl)) (hlo : 0 < (tabC kl).length → ∀ a, ao = some a → a.block < w.heap.size) :
    CallsIn F n Tryz.prog 96 #[.pointer (some ⟨p, 0, none⟩)] w fun e W' => ∃ v, e = .returned v ∧ W'.ownsRow w.heap.size 39 9 v len (ke2 kl) ∧ Below w.heap.size w W' := by
  have h1 : 1 ≤ n := by omega
  have HN : Hid (kl.length = len) := hid (tabC_ln rd)
  obtain ⟨i0, hi, hz0, hz1, hz2⟩ := info_parts infoEn
  have htl : tb < w.heap.size := World.block_lt_of_cell? w _ ht
  have hpl : p < w.heap.size := World.block_lt_of_cell? w _ hp
  refine callsIn_of_wp_marks Tryz.func96 rfl h2 ?_ hro
  simp only [Tryz.ntmps96, List.size_toArray, List.length_cons, List.length_nil, Nat.reduceAdd, Nat.reduceSub, Array.replicate_succ, Array.replicate_zero, List.push_toArray, List.append_toArray, List.nil_append, List.cons_append]
  gi_wp2_with (gi_at_call 80; refine (allE_in F (n - 1) h3 hro tb _).mono ?_; rintro e w' ⟨rfl, rfl⟩)
  have bO := Boxed.new w 48 (.slice none 0 0)
  have hB0 : Below w.heap.size w (w.alloc (.cells #[.slice none 0 0] 48)) := (Below.refl _ w).alloc (Nat.le_refl _) _
  have hB1 : Below w.heap.size w ((w.alloc (.cells #[.slice none 0 0] 48)).alloc (.cells #[.pointer (some ⟨tb, 0, none⟩)] 77)) := hB0.alloc (by simp) _
  have bO1 := bO.alloc (.cells #[.pointer (some ⟨tb, 0, none⟩)] 77)
  have bP := (Boxed.new (w.alloc (.cells #[.slice none 0 0] 48)) 77 (.pointer (some ⟨tb, 0, none⟩))).cell
  rw [World.size_alloc] at bP
  obtain ⟨W0, hW0⟩ : ∃ W0, (w.alloc (.cells #[.slice none 0 0] 48)).alloc (.cells #[.pointer (some ⟨tb, 0, none⟩)] 77) = W0 := ⟨_, rfl⟩
  have hsz : W0.heap.size = w.heap.size + 2 := by rw [← hW0]; simp
  rw [hW0] at hB1 bO1 bP ⊢
  have htW : W0.cell? ⟨tb, 1, none⟩ = some (.slice ao len cap) := (hB1.cell (p := ⟨tb, 1, none⟩) htl).trans ht
  refine wpIn_rangeFunc_ownH hro h1 (gf := 134) (lb := #[.pointer (some ⟨w.heap.size + 1, 0, none⟩)]) rfl h4 (enters_of Tryz.func134 (by kernel_rfl) rfl)
    (allE_stops F (n - 1) h4 hro (by omega) (w.heap.size + 1) tb w.heap.size ao len cap kl hle W0 (by omega) bP htW (rd.at0 hlo hB1) hlo) belowK_t (belowK_b (by omega)) (Below.refl _ _) (fun _ => rfl)
    (fun pre W => (∃ v, Boxed W w.heap.size 48 v ∧ W.ownsRow w.heap.size 39 9 v pre.length (ke2 pre) ∧ (v = .slice none 0 0 ↔ pre = [])) ∧ Below w.heap.size w W)
    (fun _ _ _ => False)
    (OwnFrom.and (Own.from (holdsRow_own w.heap.size w.heap.size 48 39 9 (fun pre => pre.length) ke2 (fun pre v => v = .slice none 0 0 ↔ pre = [])) _) (ownFrom_below (by omega) (by omega)))
    (fun _ _ _ _ _ hs _ _ => hs)
    ⟨⟨_, bO1, World.ownsRow_nil _ _ _ _, by simp⟩, hB1⟩
    (fun x a' W => ∃ Bx, w.heap.size < Bx ∧ (∀ j u, x.2.cells[j]? = some u → W.cell? ⟨Bx, 0 + j, none⟩ = some u) ∧ a' = { tmps := #[.pointer (some ⟨p, 0, none⟩), undef, .slice none 0 0, .pointer (some ⟨w.heap.size, 0, none⟩), undef, .pointer (some ⟨Bx, 0, none⟩), .pointer (some ⟨p, 0, none⟩), .pointer (some ⟨p, 0, none⟩), .pointer (some ⟨p, 0, none⟩), .pointer (some ⟨tb, 0, none⟩), .func (.func 134) #[] #[.pointer (some ⟨w.heap.size + 1, 0, none⟩)], .string x.1, .agg x.2.cells.toArray, undef, undef, undef, undef, undef], defers := [] })
    (fun x a' => Own.from (fun s A B row hs hg hr => by obtain ⟨Bx, h1, h2, h3⟩ := hs; exact ⟨Bx, h1, fun j u hu => cell_kept (h2 j u hu) hg hr, h3⟩) _)
    ?assign ?body ?done ?stop
  case assign =>
    rintro l pre x W K ⟨⟨v, hv, hrow, hnil⟩, hB⟩ hK
    obtain ⟨W2, hW2⟩ : ∃ W2, (W.alloc (.cells EnV.zero.cells.toArray 39)).setCells W.heap.size 0 x.2.cells = W2 := ⟨_, rfl⟩
    have hg2 : W.grownBy W2 none := by rw [← hW2]; exact new_grown W _
    have hcx := new_cells (vs := EnV.zero.cells) (us := x.2.cells) W 39 rfl
    rw [hW2] at hcx
    have hk2 : KeepsOthers W W2 := by rw [← hW2]; exact (KeepsOthers.alloc W _).trans (keeps_setCells _ _ _ _)
    have hlt := hv.lt
    dsimp only [keV]
    have rS := run_storeG agg_en (new_room W 39 (vs := EnV.zero.cells) (n := 9) rfl) (⟨rfl, env_one x.2⟩ : oneG x.2.cells 9)
    rw [hW2] at rS
    gi_wp2_with (refine wplI_allocA rfl rfl zero_en ?_)
    exact hK _ _ (hk2.from _) ((Below.refl _ W).grown hg2 hB.size (fun _ e => by cases e)) ⟨⟨v, hv.kept hg2 (by simp), hrow.kept hg2 (by cases v.ownBlock <;> simp), hnil⟩, hB.grown hg2 hB.size (fun _ e => by cases e)⟩ ⟨W.heap.size, hlt, fun j u hu => by rw [Nat.zero_add]; exact hcx j u hu, rfl⟩
  case body =>
    rintro l pre x a' W hl _ ⟨⟨v, hv, hrow, hnil⟩, hB⟩ ⟨Bx, hBx, hcx, rfl⟩ hlt
    have hc := hv.cell
    have HP : Hid (ke2 pre ++ x.2.cells = ke2 (pre ++ [x])) := hid (ke2_snoc pre x).symm
    have hnew : ∀ j u, x.2.cells[j]? = some u → (W.alloc (.cells x.2.cells.toArray 39)).cell? ((⟨W.heap.size, 0, none⟩ : Addr).add j) = some u := fun j u hu => by
      rw [add_plain', (cell_of_heap (World.alloc_heap_new W _)).1, Nat.zero_add, List.getElem?_toArray]; exact hu
    gi_wp2_with (first
      | (refine wplI_loadA rfl (.tmp 5) (by rfl) agg_en (by rfl) rfl hcx ?_)
      | (gi_at_builtin; go_loud (refine wpListIn_append_own _ rfl _ _ 48 rfl w.heap.size 39 i0 (.agg EnV.zero.cells.toArray) 9 88 Tryz.underlying48 hi hz0 hz1 hz2 rfl (by decide) _ _ _ rfl (hrow.alloc _) ⟨W.heap.size, 0, none⟩ 1 1 x.2.cells rfl rfl hnew (env_one x.2) (by unfold maxLen; omega) (by omega) (by have := hB.size; simp; omega) ?_; intro v' w1 hown' hgrow _; obtain ⟨g', cap', rfl⟩ := ownsRow_succ hown'; obtain ⟨hv1, hv2, hr2, hk2, hb2⟩ := hv.appended (by decide) hrow hB.size (Nat.le_refl _) hown' hgrow; have hc1 := hv1.cell; have hf1 := hv1.frozen)))
    rw [HP.out] at hr2
    exact ⟨hk2.from _, hb2, ⟨_, hv2, by simpa using hr2, by simp⟩, hB.trans hb2⟩
  case done =>
    rintro D ys W hD rfl ⟨⟨v, hv, hrow, hnil⟩, hB⟩ hK
    have hc := hv.cell
    gi_wp2
    refine ⟨by simp, .inl ⟨_, _, rfl, run_takeDeferred hK, ?_⟩⟩
    have hrow' := ownsRow_putObj hrow (.deferred none) hK rfl
    rw [HN.out] at hrow'
    exact ⟨_, results_tmp rfl _ _ _, v, rfl, hrow', hB.trans (belowK_b (w := w) (Nat.le_refl _) W D _ _ (by omega) hK rfl rfl)⟩
  case stop =>
    rintro D c pre W _ _ h _
    exact h.elim
end
end

section
attribute [local go_sem ↓] execOp_ldAny
variable {W w : World} {R : List HP} {post : Ending → World → Prop} {A : RAd} {r : RepV}

theorem ke2_one (l : List KE) : ∀ u ∈ ke2 l, u.oneCell' = true := fun u hu => by
  unfold ke2 at hu
  obtain ⟨cs, hc, hu⟩ := List.mem_flatten.1 hu
  obtain ⟨y, _, rfl⟩ := List.mem_map.1 hc
  exact env_one y u hu

set_option maxRecDepth 100000 in
/-- All graves. -/
theorem gall_c {g gp : Nat} {x y : Value} {l : List KE} (hl : l.length ≤ 4096) (st : St W w (row g 0 [ptrV gp, x, y] :: TabE gp 0 4096 l :: R))
    (K : ∀ a n c w', n = l.length → St W w' (OwnS 9 a n c (ke2 l) :: row g 0 [ptrV gp, x, y] :: TabE gp 0 4096 l :: R) → post (.returned (.slice a n c)) w') :
    Calls Tryz.prog 96 #[.pointer (some ⟨g, 0, none⟩)] w post := by
  have c0 : w.cell? ⟨g, 0, none⟩ = some (.pointer (some ⟨gp, 0, none⟩)) := st.rowCell (i := 0) rfl
  obtain ⟨ao, n, c, ht, rd⟩ := tabE_rd (St.pick 1 st)
  have hn := tabC_ln rd
  have hlo : 0 < (tabC l).length → ∀ a, ao = some a → a.block < w.heap.size := rd.low
  refine (callsIn_wide.1 (gall_in Fence.wide 4 trivial trivial trivial rfl (Nat.le_refl _) g gp ao n c l (by omega) w c0 ht rd hlo)).mono ?_
  rintro e w' ⟨v, rfl, hrow, hb⟩
  obtain ⟨ao', c', rfl, s'⟩ := st.ofRow hb hrow (by rw [ke2_len, hn]) (ke2_one l)
  exact K ao' n c' w' hn.symm s'

set_option maxRecDepth 100000 in
set_option maxHeartbeats 1000000 in
/-- The replica's graves. -/
theorem graves_c (h : RepOK r) (st : St W w (RepA A r :: R)) (K : ∀ a n c w', n = r.gr.length → St W w' (OwnS 9 a n c (ke2 r.gr) :: RepA A r :: R) → post (.returned (.slice a n c)) w') :
    Calls Tryz.prog 33 #[.pointer (some ⟨A.p, 0, none⟩)] w post := by
  have HK := hid K; clear K
  have HL := hid h.grL
  have l10 := (repLd st).2.2.2.2.1
  clear h
  go_enter Tryz.func33, Tryz.ntmps33
  go_wp2_with (first
    | (go_at_call 96; refine gall_c HL.out ((RepA.open.1 st).perm [5, 5]) ?_; rintro a2 n2 c2 w2 hn2 s2; have HN2 := hid hn2; have hb2 : n2 ≤ 4096 := (by rw [hn2]; exact HL.out); clear hn2)
    | (go_at_call 95; refine cloneN_c s2 (OwnS.rd s2) (by omega) ?_; rintro a3 c3 w3 s3))
  have s4 : St W w3 (OwnS 9 a3 n2 c3 (ke2 r.gr) :: RepA A r :: R) := St.pick 1 (((RepA.open.2 (s3.perm [4, 4, 4, 4, 4, 2, 2, 2, 2])).perm [2]).drop)
  exact HK.out _ _ _ _ HN2.out s4
end
end Go.Proofs.YtggbeedghblakaaGreatDoor

/- The keys of the replica's site: Own. Printed by mkRngO.py. -/
namespace Go.Proofs.YtggbeedghblakaaGreatDoor
open Go.RowKit Go.Shelf Go.Qd RepV

section
attribute [local go_sem] Oper.semAt_some
def kbV (x : KB) : Array Value := #[.string x.1, .bool x.2]
theorem zero_pb (w : World) : (zeroValue 247).run Tryz.prog w = .ok (.agg (pbC (ByteArray.empty, false)).toArray) w := by kernel_rfl

set_option maxRecDepth 100000 in
set_option maxHeartbeats 4000000 in
theorem allB1_in (F : Fence) (n : Nat) (hf : F.fn 146) (hro : F.round = none) (hn : 1 ≤ n) (l Bs tb n₀ : Nat) (ao : Option Addr) (len cap : Nat) (kl : List KB) (hle : len ≤ 4096) (J Jx : List KB → World → Prop)
    (W : World) (hJ : AbidesFrom W.heap.size J)
    (hY : ∀ pre x W1, J pre W1 → pre.length < len → YieldAt F (n - 1) Tryz.prog l (kbV x) W1 fun e W' =>
      (e = .returned (.bool true) ∧ J (pre ++ [x]) W' ∧ Below n₀ W1 W') ∨ (e = .returned (.bool false) ∧ Jx (pre ++ [x]) W'))
    (hn₀ : n₀ ≤ W.heap.size) (h0 : W.cell? ⟨Bs, 0, none⟩ = some (.pointer (some ⟨tb, 0, none⟩))) (h1 : W.cell? ⟨tb, 1, none⟩ = some (.slice ao len cap)) (rd : RdS W 2 ao len cap (tbC kl)) (hlo : 0 < (tbC kl).length → ∀ a, ao = some a → a.block < n₀) (hj : J [] W) :
    CallsIn F n Tryz.prog 146 #[.func (.yield l) #[] #[], .pointer (some ⟨Bs, 0, none⟩)] W fun e W' => (∃ v, e = .returned v) ∧ (J kl W' ∨ ∃ pre, pre <+: kl ∧ Jx pre W') := by
  have HN : Hid (kl.length = len) := hid (tbC_ln rd)
  refine callsIn_of_wp Tryz.func146 rfl hf ?_ hro
  simp only [Tryz.ntmps146, List.size_toArray, List.length_cons, List.length_nil, Nat.reduceAdd, Nat.reduceSub, Array.replicate_succ, Array.replicate_zero, List.push_toArray, List.append_toArray, List.nil_append, List.cons_append]
  gi_wp2
  gi_loopw [10] (fun i wr => ∃ k : Nat, k ≤ len ∧ i = .int .i64 k ∧ J (kl.take k) wr ∧ Below n₀ W wr) (fun i _ => len - (intOf i).toNat)
  case atStart => exact ⟨0, Nat.zero_le _, rfl, by simpa using hj, Below.refl _ _⟩
  case round =>
    obtain ⟨k, hk, rfl, hJs, hnx⟩ := hrel
    by_cases hlt : k < len
    · have hkA : k < kl.length := by rw [HN.out]; exact hlt
      have rdr := rd.at0 hlo hnx
      obtain ⟨g, o, rfl⟩ := rdr.addr (by omega)
      have hsn := take_snoc hkA
      have hlk : (kl.take k).length = k := by rw [List.length_take]; omega
      have hcel : ∀ j u, (pbC kl[k])[j]? = some u → wr.cell? ⟨g, o + k * 2 + j, none⟩ = some u := fun j u hu => rdr.at2 (tbC_get hkA hu)
      obtain ⟨x, hx⟩ : ∃ x, kl[k] = x := ⟨_, rfl⟩
      rw [hx] at hsn hcel
      have HSN := hid hsn
      have hk2 : (k : Int) < (len : Int) := by omega
      have hsz : W.heap.size ≤ wr.heap.size := hnx.size
      -- the pair's box
      obtain ⟨W2, hW2⟩ : ∃ W2, (wr.alloc (.cells (pbC (ByteArray.empty, false)).toArray 247)).setCells wr.heap.size 0 (pbC x) = W2 := ⟨_, rfl⟩
      have hg2 : wr.grownBy W2 none := by rw [← hW2]; exact new_grown wr _
      have hJ2 : J (kl.take k) W2 := hJ _ _ _ none hJs hg2 (fun r e => by cases e)
      have hn2 : Below n₀ W W2 := hnx.grown hg2 (by omega) (fun _ e => by cases e)
      have hcx := new_cells (vs := pbC (ByteArray.empty, false)) (us := pbC x) wr 247 rfl
      rw [hW2] at hcx
      have c0 := hcx 0 _ rfl
      have c1 := hcx 1 _ rfl
      obtain ⟨fn, tmps, assign, body, hy, hR⟩ := hY _ x W2 hJ2 (by rw [hlk]; exact hlt)
      dsimp only [kbV] at hy
      clear hsn hx
      gi_wp2_with (first
        | (refine wplI_loadA rfl (.tmp 12) (by rfl) agg_pb (by rfl) rfl hcel ?_)
        | (refine wplI_allocA rfl rfl zero_pb ?_)
        | (refine wplI_storeA rfl (.tmp 4) (.tmp 13) (by rfl) agg_pb (by rfl) (by rfl) (new_room wr _ rfl) ⟨rfl, pb_one x⟩ ?_; rw [hW2]))
      refine hR.mono ?_
      rintro e W3 (⟨rfl, hJ3, hk3⟩ | ⟨rfl, hJx3⟩)
      · gi_wp2
        go_roundw
        case rel => exact ⟨k + 1, by omega, by go_num, by rw [← HSN.out]; exact hJ3, hn2.trans hk3⟩
        case measure => simp [intOf]; omega
      · gi_wp2
        refine bodyPost_ret (results_none rfl _ _ _) rfl ?_
        exact ⟨⟨_, rfl⟩, .inr ⟨_, List.take_prefix (k + 1) kl, by rw [← HSN.out]; exact hJx3⟩⟩
    · obtain rfl : k = len := by omega
      rw [List.take_of_length_le (by rw [HN.out]; exact Nat.le_refl _)] at hJs
      gi_wp2
      go_end0
      exact ⟨⟨_, rfl⟩, .inl hJs⟩

theorem allB_stops (F : Fence) (n : Nat) (hf : F.fn 146) (hro : F.round = none) (hn : 1 ≤ n) (Bs tb n₀ : Nat) (ao : Option Addr) (len cap : Nat) (kl : List KB) (hle : len ≤ 4096) (w : World)
    (hn₀ : n₀ ≤ w.heap.size) (h0 : w.cell? ⟨Bs, 0, none⟩ = some (.pointer (some ⟨tb, 0, none⟩))) (h1 : w.cell? ⟨tb, 1, none⟩ = some (.slice ao len cap)) (rd : RdS w 2 ao len cap (tbC kl)) (hlo : 0 < (tbC kl).length → ∀ a, ao = some a → a.block < n₀) :
    SeqStopsK F n Tryz.prog 146 #[.pointer (some ⟨Bs, 0, none⟩)] kbV (Below n₀) (fun ys => ys = kl) (fun pre => pre <+: kl) len w := fun l J Jx W hW hJ _ hY hj => by
  have hW' : Below n₀ w W := hW.mono hn₀
  refine (allB1_in F n hf hro hn l Bs tb n₀ ao len cap kl hle J Jx W hJ hY (Nat.le_trans hn₀ hW.size) ((hW.cell (World.block_lt_of_cell? w _ h0)).trans h0) ((hW.cell (World.block_lt_of_cell? w _ h1)).trans h1) (rd.at0 hlo hW') hlo hj).mono ?_
  rintro e W' ⟨he, hj | ⟨pre, hp, hj⟩⟩
  · exact ⟨he, .inl ⟨_, rfl, hj⟩⟩
  · exact ⟨he, .inr ⟨_, hp, hj⟩⟩

theorem allB_in (F : Fence) (n : Nat) (hf : F.fn 97) (hro : F.round = none) (tb : Nat) (w : World) :
    CallsIn F n Tryz.prog 97 #[.pointer (some ⟨tb, 0, none⟩)] w fun e W' => e = .returned (.func (.func 146) #[] #[.pointer (some ⟨w.heap.size, 0, none⟩)]) ∧ W' = w.alloc (.cells #[.pointer (some ⟨tb, 0, none⟩)] 78) := by
  refine callsIn_of_wp Tryz.func97 rfl hf ?_ hro
  simp only [Tryz.ntmps97, List.size_toArray, List.length_cons, List.length_nil, Nat.reduceAdd, Nat.reduceSub, Array.replicate_succ, Array.replicate_zero, List.push_toArray, List.append_toArray, List.nil_append, List.cons_append]
  gi_wp2
  go_ret
  exact ⟨rfl, rfl⟩


theorem infoSt : (Tryz.prog.info? 9).map (fun i => (i.zero, i.size, i.bytes)) = some (some (.string ByteArray.empty), 1, 16) := by kernel_rfl
def kb1 (l : List KB) : List Value := l.map fun p => Value.string p.1
theorem kb1_len (l : List KB) : (kb1 l).length = l.length * 1 := by simp [kb1]
theorem kb1_snoc (l : List KB) (x : KB) : kb1 (l ++ [x]) = kb1 l ++ [.string x.1] := by simp [kb1]

set_option maxRecDepth 100000 in
set_option maxHeartbeats 4000000 in
theorem own_in (F : Fence) (n : Nat) (h2 : F.fn 35) (h3 : F.fn 97) (h4 : F.fn 146) (hro : F.round = none) (hn : 4 ≤ n)
    (p tb : Nat) (ao : Option Addr) (len cap : Nat) (kl : List KB) (hle : len ≤ 4096) (w : World)
    (hp : w.cell? ⟨p, 8, none⟩ = some (.pointer (some ⟨tb, 0, none⟩))) (ht : w.cell? ⟨tb, 1, none⟩ = some (.slice ao len cap)) (rd : RdS w 2 ao len cap (tbC kl)) (hlo : 0 < (tbC kl).length → ∀ a, ao = some a → a.block < w.heap.size) :
    CallsIn F n Tryz.prog 35 #[.pointer (some ⟨p, 0, none⟩)] w fun e W' => ∃ v, e = .returned v ∧ W'.ownsRow w.heap.size 9 1 v len (kb1 kl) ∧ Below w.heap.size w W' := by
  have h1 : 1 ≤ n := by omega
  have HN : Hid (kl.length = len) := hid (tbC_ln rd)
  obtain ⟨i0, hi, hz0, hz1, hz2⟩ := info_parts infoSt
  have htl : tb < w.heap.size := World.block_lt_of_cell? w _ ht
  have hpl : p < w.heap.size := World.block_lt_of_cell? w _ hp
  refine callsIn_of_wp_marks Tryz.func35 rfl h2 ?_ hro
  simp only [Tryz.ntmps35, List.size_toArray, List.length_cons, List.length_nil, Nat.reduceAdd, Nat.reduceSub, Array.replicate_succ, Array.replicate_zero, List.push_toArray, List.append_toArray, List.nil_append, List.cons_append]
  gi_wp2_with (gi_at_call 97; refine (allB_in F (n - 1) h3 hro tb _).mono ?_; rintro e w' ⟨rfl, rfl⟩)
  have bO := Boxed.new w 56 (.slice none 0 0)
  have hB0 : Below w.heap.size w (w.alloc (.cells #[.slice none 0 0] 56)) := (Below.refl _ w).alloc (Nat.le_refl _) _
  have hB1 : Below w.heap.size w ((w.alloc (.cells #[.slice none 0 0] 56)).alloc (.cells #[.pointer (some ⟨tb, 0, none⟩)] 78)) := hB0.alloc (by simp) _
  have bO1 := bO.alloc (.cells #[.pointer (some ⟨tb, 0, none⟩)] 78)
  have bP := (Boxed.new (w.alloc (.cells #[.slice none 0 0] 56)) 78 (.pointer (some ⟨tb, 0, none⟩))).cell
  rw [World.size_alloc] at bP
  obtain ⟨W0, hW0⟩ : ∃ W0, (w.alloc (.cells #[.slice none 0 0] 56)).alloc (.cells #[.pointer (some ⟨tb, 0, none⟩)] 78) = W0 := ⟨_, rfl⟩
  have hsz : W0.heap.size = w.heap.size + 2 := by rw [← hW0]; simp
  rw [hW0] at hB1 bO1 bP ⊢
  have htW : W0.cell? ⟨tb, 1, none⟩ = some (.slice ao len cap) := (hB1.cell (p := ⟨tb, 1, none⟩) htl).trans ht
  refine wpIn_rangeFunc_ownH hro h1 (gf := 146) (lb := #[.pointer (some ⟨w.heap.size + 1, 0, none⟩)]) rfl h4 (enters_of Tryz.func146 (by kernel_rfl) rfl)
    (allB_stops F (n - 1) h4 hro (by omega) (w.heap.size + 1) tb w.heap.size ao len cap kl hle W0 (by omega) bP htW (rd.at0 hlo hB1) hlo) belowK_t (belowK_b (by omega)) (Below.refl _ _) (fun _ => rfl)
    (fun pre W => (∃ v, Boxed W w.heap.size 56 v ∧ W.ownsRow w.heap.size 9 1 v pre.length (kb1 pre) ∧ (v = .slice none 0 0 ↔ pre = [])) ∧ Below w.heap.size w W)
    (fun _ _ _ => False)
    (OwnFrom.and (Own.from (holdsRow_own w.heap.size w.heap.size 56 9 1 (fun pre => pre.length) kb1 (fun pre v => v = .slice none 0 0 ↔ pre = [])) _) (ownFrom_below (by omega) (by omega)))
    (fun _ _ _ _ _ hs _ _ => hs)
    ⟨⟨_, bO1, World.ownsRow_nil _ _ _ _, by simp⟩, hB1⟩
    (fun x a' W => a' = { tmps := #[.pointer (some ⟨p, 0, none⟩), undef, .slice none 0 0, .pointer (some ⟨w.heap.size, 0, none⟩), .string x.1, .pointer (some ⟨p, 0, none⟩), .pointer (some ⟨p, 0, none⟩), .pointer (some ⟨p, 8, none⟩), .pointer (some ⟨tb, 0, none⟩), .func (.func 146) #[] #[.pointer (some ⟨w.heap.size + 1, 0, none⟩)], .string x.1, .bool x.2, undef, undef, undef, undef, undef], defers := [] })
    (fun x a' => Own.from (fun s A B row hs hg hr => hs) _)
    ?assign ?body ?done ?stop
  case assign =>
    rintro l pre x W K hI hK
    dsimp only [kbV]
    gi_wp2
    exact hK _ _ (KeepsFrom.refl _ _) (Below.refl _ _) hI rfl
  case body =>
    rintro l pre x a' W hl _ ⟨⟨v, hv, hrow, hnil⟩, hB⟩ rfl hlt
    have hc := hv.cell
    have HP : Hid (kb1 pre ++ [.string x.1] = kb1 (pre ++ [x])) := hid (kb1_snoc pre x).symm
    gi_wp2_with (gi_at_builtin; refine wpListIn_append_own _ rfl _ _ 56 rfl w.heap.size 9 i0 (.string ByteArray.empty) 1 16 Tryz.underlying56 hi hz0 hz1 hz2 rfl (by decide) _ _ _ rfl (hrow.alloc _) ⟨W.heap.size, 0, none⟩ 1 1 [.string x.1] rfl rfl (cell_one_new _ _ _) (by simp [Value.oneCell']) (by unfold maxLen; omega) (by omega) (by have := hB.size; simp; omega) ?_; intro v' w1 hown' hgrow _; obtain ⟨g', cap', rfl⟩ := ownsRow_succ hown'; obtain ⟨hv1, hv2, hr2, hk2, hb2⟩ := hv.appended (by decide) hrow hB.size (Nat.le_refl _) hown' hgrow; have hc1 := hv1.cell; have hf1 := hv1.frozen)
    rw [HP.out] at hr2
    exact ⟨hk2.from _, hb2, ⟨_, hv2, by simpa using hr2, by simp⟩, hB.trans hb2⟩
  case done =>
    rintro D ys W hD rfl ⟨⟨v, hv, hrow, hnil⟩, hB⟩ hK
    have hc := hv.cell
    gi_wp2
    refine ⟨by simp, .inl ⟨_, _, rfl, run_takeDeferred hK, ?_⟩⟩
    have hrow' := ownsRow_putObj hrow (.deferred none) hK rfl
    rw [HN.out] at hrow'
    exact ⟨_, results_tmp rfl _ _ _, v, rfl, hrow', hB.trans (belowK_b (w := w) (Nat.le_refl _) W D _ _ (by omega) hK rfl rfl)⟩
  case stop =>
    rintro D c pre W _ _ h _
    exact h.elim
end

section
variable {W w : World} {R : List HP} {post : Ending → World → Prop} {A : RAd} {r : RepV}
theorem tabB_rd {tb : Nat} {room : Int} {l : List KB} (s : St W w (TabB tb 0 room l :: R)) : ∃ ao n c, w.cell? ⟨tb, 1, none⟩ = some (.slice ao n c) ∧ RdS w 2 ao n c (tbC l) := by
  obtain ⟨ao, n, c, s⟩ := TabB.open s
  obtain ⟨_, h1, _⟩ := rowTwo s
  exact ⟨ao, n, c, by simpa using h1, OwnS.rd (St.pick 1 s)⟩
set_option maxRecDepth 100000 in
/-- The keys that the site wrote. -/
theorem own_c (h : RepOK r) (st : St W w (RepA A r :: R)) (K : ∀ a n c w', n = r.own.length → St W w' (OwnS 1 a n c (kb1 r.own) :: RepA A r :: R) → post (.returned (.slice a n c)) w') :
    Calls Tryz.prog 35 #[.pointer (some ⟨A.p, 0, none⟩)] w post := by
  have hl := h.ownL
  have c8 := (repPtr (RepA.open.1 st)).2.2.1
  obtain ⟨ao, n, c, ht, rd⟩ := tabB_rd (St.pick 3 (RepA.open.1 st))
  have hn := tbC_ln rd
  refine (callsIn_wide.1 (own_in Fence.wide 4 trivial trivial trivial rfl (Nat.le_refl _) A.p A.ow ao n c r.own (by omega) w c8 ht rd rd.low)).mono ?_
  rintro e w' ⟨v, rfl, hrow, hb⟩
  obtain ⟨ao', c', rfl, s'⟩ := st.ofRow hb hrow (by rw [kb1_len, hn]) (fun u hu => by
    unfold kb1 at hu
    obtain ⟨y, _, rfl⟩ := List.mem_map.1 hu
    rfl)
  exact K ao' n c' w' hn.symm s'
end
end Go.Proofs.YtggbeedghblakaaGreatDoor
