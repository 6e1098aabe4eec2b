/- The graves: All, Graves. Printed by mkRngG.py. -/
import Derived.Test.YtggbeedghblakaaGreatDoorRngB
namespace Go.Proofs.YtggbeedghblakaaGreatDoor
open Go.RowKit Go.Shelf Go.Qd RepV

section
attribute [local go_sem] Oper.semAt_some
section
attribute [local go_sem ↓] execOp_bsE execOp_stEn
attribute [local go_sem] run_bsE
set_option maxRecDepth 100000 in
set_option maxHeartbeats 4000000 in
theorem gall_in (F : Fence) (n : Nat) (h2 : F.fn 96) (h3 : F.fn 80) (h4 : F.fn 134) (hro : F.round = none) (hn : 4 ≤ n)
    (p tb : Nat) (ao : Option Addr) (len cap : Nat) (kl : List KE) (hle : len ≤ 4096) (w : World)
    (hp : w.cell? ⟨p, 0, none⟩ = some (.pointer (some ⟨tb, 0, none⟩))) (ht : w.cell? ⟨tb, 1, none⟩ = some (.slice ao len cap)) (rd : RdS w 10 ao len cap (tabC kl)) (hlo : 0 < (tabC kl).length → ∀ a, ao = some a → a.block < w.heap.size) :
    CallsIn F n Tryz.prog 96 #[.pointer (some ⟨p, 0, none⟩)] w fun e W' => ∃ v, e = .returned v ∧ W'.ownsRow w.heap.size 39 9 v len (ke2 kl) ∧ Below w.heap.size w W' := by
  have h1 : 1 ≤ n := by omega
  have HN : Hid (kl.length = len) := hid (tabC_ln rd)
  obtain ⟨i0, hi, hz0, hz1, hz2⟩ := info_parts infoEn
  have htl : tb < w.heap.size := World.block_lt_of_cell? w _ ht
  have hpl : p < w.heap.size := World.block_lt_of_cell? w _ hp
  refine callsIn_of_wp_marks Tryz.func96 rfl h2 ?_ hro
  simp only [Tryz.ntmps96, List.size_toArray, List.length_cons, List.length_nil, Nat.reduceAdd, Nat.reduceSub, Array.replicate_succ, Array.replicate_zero, List.push_toArray, List.append_toArray, List.nil_append, List.cons_append]
  gi_wp2_with (gi_at_call 80; refine (allE_in F (n - 1) h3 hro tb _).mono ?_; rintro e w' ⟨rfl, rfl⟩)
  have bO := Boxed.new w 48 (.slice none 0 0)
  have hB0 : Below w.heap.size w (w.alloc (.cells #[.slice none 0 0] 48)) := (Below.refl _ w).alloc (Nat.le_refl _) _
  have hB1 : Below w.heap.size w ((w.alloc (.cells #[.slice none 0 0] 48)).alloc (.cells #[.pointer (some ⟨tb, 0, none⟩)] 77)) := hB0.alloc (by simp) _
  have bO1 := bO.alloc (.cells #[.pointer (some ⟨tb, 0, none⟩)] 77)
  have bP := (Boxed.new (w.alloc (.cells #[.slice none 0 0] 48)) 77 (.pointer (some ⟨tb, 0, none⟩))).cell
  rw [World.size_alloc] at bP
  obtain ⟨W0, hW0⟩ : ∃ W0, (w.alloc (.cells #[.slice none 0 0] 48)).alloc (.cells #[.pointer (some ⟨tb, 0, none⟩)] 77) = W0 := ⟨_, rfl⟩
  have hsz : W0.heap.size = w.heap.size + 2 := by rw [← hW0]; simp
  rw [hW0] at hB1 bO1 bP ⊢
  have htW : W0.cell? ⟨tb, 1, none⟩ = some (.slice ao len cap) := (hB1.cell (p := ⟨tb, 1, none⟩) htl).trans ht
  refine wpIn_rangeFunc_ownH hro h1 (gf := 134) (lb := #[.pointer (some ⟨w.heap.size + 1, 0, none⟩)]) rfl h4 (enters_of Tryz.func134 (by kernel_rfl) rfl)
    (allE_stops F (n - 1) h4 hro (by omega) (w.heap.size + 1) tb w.heap.size ao len cap kl hle W0 (by omega) bP htW (rd.at0 hlo hB1) hlo) belowK_t (belowK_b (by omega)) (Below.refl _ _) (fun _ => rfl)
    (fun pre W => (∃ v, Boxed W w.heap.size 48 v ∧ W.ownsRow w.heap.size 39 9 v pre.length (ke2 pre) ∧ (v = .slice none 0 0 ↔ pre = [])) ∧ Below w.heap.size w W)
    (fun _ _ _ => False)
    (OwnFrom.and (Own.from (holdsRow_own w.heap.size w.heap.size 48 39 9 (fun pre => pre.length) ke2 (fun pre v => v = .slice none 0 0 ↔ pre = [])) _) (ownFrom_below (by omega) (by omega)))
    (fun _ _ _ _ _ hs _ _ => hs)
    ⟨⟨_, bO1, World.ownsRow_nil _ _ _ _, by simp⟩, hB1⟩
    (fun x a' W => ∃ Bx, w.heap.size < Bx ∧ (∀ j u, x.2.cells[j]? = some u → W.cell? ⟨Bx, 0 + j, none⟩ = some u) ∧ a' = { tmps := #[.pointer (some ⟨p, 0, none⟩), undef, .slice none 0 0, .pointer (some ⟨w.heap.size, 0, none⟩), undef, .pointer (some ⟨Bx, 0, none⟩), .pointer (some ⟨p, 0, none⟩), .pointer (some ⟨p, 0, none⟩), .pointer (some ⟨p, 0, none⟩), .pointer (some ⟨tb, 0, none⟩), .func (.func 134) #[] #[.pointer (some ⟨w.heap.size + 1, 0, none⟩)], .string x.1, .agg x.2.cells.toArray, undef, undef, undef, undef, undef], defers := [] })
    (fun x a' => Own.from (fun s A B row hs hg hr => by obtain ⟨Bx, h1, h2, h3⟩ := hs; exact ⟨Bx, h1, fun j u hu => cell_kept (h2 j u hu) hg hr, h3⟩) _)
    ?assign ?body ?done ?stop
  case assign =>
    rintro l pre x W K ⟨⟨v, hv, hrow, hnil⟩, hB⟩ hK
    obtain ⟨W2, hW2⟩ : ∃ W2, (W.alloc (.cells EnV.zero.cells.toArray 39)).setCells W.heap.size 0 x.2.cells = W2 := ⟨_, rfl⟩
    have hg2 : W.grownBy W2 none := by rw [← hW2]; exact new_grown W _
    have hcx := new_cells (vs := EnV.zero.cells) (us := x.2.cells) W 39 rfl
    rw [hW2] at hcx
    have hk2 : KeepsOthers W W2 := by rw [← hW2]; exact (KeepsOthers.alloc W _).trans (keeps_setCells _ _ _ _)
    have hlt := hv.lt
    dsimp only [keV]
    have rS := run_storeG agg_en (new_room W 39 (vs := EnV.zero.cells) (n := 9) rfl) (⟨rfl, env_one x.2⟩ : oneG x.2.cells 9)
    rw [hW2] at rS
    gi_wp2_with (refine wplI_allocA rfl rfl zero_en ?_)
    exact hK _ _ (hk2.from _) ((Below.refl _ W).grown hg2 hB.size (fun _ e => by cases e)) ⟨⟨v, hv.kept hg2 (by simp), hrow.kept hg2 (by cases v.ownBlock <;> simp), hnil⟩, hB.grown hg2 hB.size (fun _ e => by cases e)⟩ ⟨W.heap.size, hlt, fun j u hu => by rw [Nat.zero_add]; exact hcx j u hu, rfl⟩
  case body =>
    rintro l pre x a' W hl _ ⟨⟨v, hv, hrow, hnil⟩, hB⟩ ⟨Bx, hBx, hcx, rfl⟩ hlt
    have hc := hv.cell
    have HP : Hid (ke2 pre ++ x.2.cells = ke2 (pre ++ [x])) := hid (ke2_snoc pre x).symm
    have hnew : ∀ j u, x.2.cells[j]? = some u → (W.alloc (.cells x.2.cells.toArray 39)).cell? ((⟨W.heap.size, 0, none⟩ : Addr).add j) = some u := fun j u hu => by
      rw [add_plain', (cell_of_heap (World.alloc_heap_new W _)).1, Nat.zero_add, List.getElem?_toArray]; exact hu
    gi_wp2_with (first
      | (refine wplI_loadA rfl (.tmp 5) (by rfl) agg_en (by rfl) rfl hcx ?_)
      | (gi_at_builtin; go_loud (refine wpListIn_append_own _ rfl _ _ 48 rfl w.heap.size 39 i0 (.agg EnV.zero.cells.toArray) 9 88 Tryz.underlying48 hi hz0 hz1 hz2 rfl (by decide) _ _ _ rfl (hrow.alloc _) ⟨W.heap.size, 0, none⟩ 1 1 x.2.cells rfl rfl hnew (env_one x.2) (by unfold maxLen; omega) (by omega) (by have := hB.size; simp; omega) ?_; intro v' w1 hown' hgrow _; obtain ⟨g', cap', rfl⟩ := ownsRow_succ hown'; obtain ⟨hv1, hv2, hr2, hk2, hb2⟩ := hv.appended (by decide) hrow hB.size (Nat.le_refl _) hown' hgrow; have hc1 := hv1.cell; have hf1 := hv1.frozen)))
    rw [HP.out] at hr2
    exact ⟨hk2.from _, hb2, ⟨_, hv2, by simpa using hr2, by simp⟩, hB.trans hb2⟩
  case done =>
    rintro D ys W hD rfl ⟨⟨v, hv, hrow, hnil⟩, hB⟩ hK
    have hc := hv.cell
    gi_wp2
    refine ⟨by simp, .inl ⟨_, _, rfl, run_takeDeferred hK, ?_⟩⟩
    have hrow' := ownsRow_putObj hrow (.deferred none) hK rfl
    rw [HN.out] at hrow'
    exact ⟨_, results_tmp rfl _ _ _, v, rfl, hrow', hB.trans (belowK_b (w := w) (Nat.le_refl _) W D _ _ (by omega) hK rfl rfl)⟩
  case stop =>
    rintro D c pre W _ _ h _
    exact h.elim
end
end

section
attribute [local go_sem ↓] execOp_ldAny
variable {W w : World} {R : List HP} {post : Ending → World → Prop} {A : RAd} {r : RepV}

theorem ke2_one (l : List KE) : ∀ u ∈ ke2 l, u.oneCell' = true := fun u hu => by
  unfold ke2 at hu
  obtain ⟨cs, hc, hu⟩ := List.mem_flatten.1 hu
  obtain ⟨y, _, rfl⟩ := List.mem_map.1 hc
  exact env_one y u hu

set_option maxRecDepth 100000 in
/-- All graves. -/
theorem gall_c {g gp : Nat} {x y : Value} {l : List KE} (hl : l.length ≤ 4096) (st : St W w (row g 0 [ptrV gp, x, y] :: TabE gp 0 4096 l :: R))
    (K : ∀ a n c w', n = l.length → St W w' (OwnS 9 a n c (ke2 l) :: row g 0 [ptrV gp, x, y] :: TabE gp 0 4096 l :: R) → post (.returned (.slice a n c)) w') :
    Calls Tryz.prog 96 #[.pointer (some ⟨g, 0, none⟩)] w post := by
  have c0 : w.cell? ⟨g, 0, none⟩ = some (.pointer (some ⟨gp, 0, none⟩)) := st.rowCell (i := 0) rfl
  obtain ⟨ao, n, c, ht, rd⟩ := tabE_rd (St.pick 1 st)
  have hn := tabC_ln rd
  have hlo : 0 < (tabC l).length → ∀ a, ao = some a → a.block < w.heap.size := rd.low
  refine (callsIn_wide.1 (gall_in Fence.wide 4 trivial trivial trivial rfl (Nat.le_refl _) g gp ao n c l (by omega) w c0 ht rd hlo)).mono ?_
  rintro e w' ⟨v, rfl, hrow, hb⟩
  obtain ⟨ao', c', rfl, s'⟩ := st.ofRow hb hrow (by rw [ke2_len, hn]) (ke2_one l)
  exact K ao' n c' w' hn.symm s'

set_option maxRecDepth 100000 in
set_option maxHeartbeats 1000000 in
/-- The replica's graves. -/
theorem graves_c (h : RepOK r) (st : St W w (RepA A r :: R)) (K : ∀ a n c w', n = r.gr.length → St W w' (OwnS 9 a n c (ke2 r.gr) :: RepA A r :: R) → post (.returned (.slice a n c)) w') :
    Calls Tryz.prog 33 #[.pointer (some ⟨A.p, 0, none⟩)] w post := by
  have HK := hid K; clear K
  have HL := hid h.grL
  have l10 := (repLd st).2.2.2.2.1
  clear h
  go_enter Tryz.func33, Tryz.ntmps33
  go_wp2_with (first
    | (go_at_call 96; refine gall_c HL.out ((RepA.open.1 st).perm [5, 5]) ?_; rintro a2 n2 c2 w2 hn2 s2; have HN2 := hid hn2; have hb2 : n2 ≤ 4096 := (by rw [hn2]; exact HL.out); clear hn2)
    | (go_at_call 95; refine cloneN_c s2 (OwnS.rd s2) (by omega) ?_; rintro a3 c3 w3 s3))
  have s4 : St W w3 (OwnS 9 a3 n2 c3 (ke2 r.gr) :: RepA A r :: R) := St.pick 1 (((RepA.open.2 (s3.perm [4, 4, 4, 4, 4, 2, 2, 2, 2])).perm [2]).drop)
  exact HK.out _ _ _ _ HN2.out s4
end
end Go.Proofs.YtggbeedghblakaaGreatDoor
