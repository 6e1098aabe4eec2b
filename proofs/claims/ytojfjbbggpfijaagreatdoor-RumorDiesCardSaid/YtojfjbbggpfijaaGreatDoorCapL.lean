/- What a mill tells, in plain Lean: each letter may be. -/
import Derived.Test.YtojfjbbggpfijaaGreatDoorRumW
import Derived.Test.YtojfjbbggpfijaaGreatDoorHotM
import Derived.Test.YtojfjbbggpfijaaGreatDoorDices
import Derived.Test.YtojfjbbggpfijaaGreatDoorMils
import Derived.Test.YtojfjbbggpfijaaGreatDoorBasA
import Derived.Test.YtojfjbbggpfijaaGreatDoorGoos
namespace Go.Proofs.YtojfjbbggpfijaaGreatDoor
open Go.RowKit Go.Qd RepV

/-- Each entry of a table may be. -/
def TabG (l : List KE) : Prop := ∀ p ∈ l, checkE p.2 = 0
theorem TabG.get {l : List KE} (h : TabG l) {k : ByteArray} (hs : TSrt l) (hk : thas l k = true) : checkE (tget l k) = 0 := by
  obtain ⟨p, hp, _, e⟩ := thas_mem hk hs
  rw [e]; exact h p hp
theorem TabG.put {l : List KE} (h : TabG l) (k : ByteArray) {e : EnV} (he : checkE e = 0) : TabG (tput l k e) := fun p hp => by
  rcases (mem_putK kLt_ord).1 hp with rfl | ⟨hp, _⟩
  · exact he
  · exact h p hp
namespace RepV
variable {r : RepV}
theorem set_tabG (h : TabG r.tab) (e : EnV) : TabG (r.set e).tab := by
  have hb := (wrote_dsk { r with d := r.d.add (encE e) } e).2.1
  rcases set_out r e with g | g | g | g
  · rw [g.1]; exact h
  · rw [g.1]; exact h
  · rw [g.1]
    show TabG (tput (({ r with d := r.d.add (encE e) }.wrote e).buried e).tab e.key e)
    refine TabG.put ?_ _ g.2.2
    show TabG ({ r with d := r.d.add (encE e) }.wrote e).tab
    rw [hb]; exact h
  · rw [g.1]
    show TabG ({ r with d := r.d.add (encE e) }.wrote e).tab
    rw [hb]; exact h
theorem woken_tabG (h : TabG r.tab) (k : ByteArray) : TabG (r.woken k).tab := by
  unfold RepV.woken
  split
  · exact h
  · split
    · exact h
    · exact set_tabG (r := { r with cnt := r.cnt + 1 }) h _
theorem merge_tabG (h : TabG r.tab) (hr : RepOK r) (e : EnV) : TabG (r.merge e).tab := by
  unfold RepV.merge
  split
  · exact h
  · rename_i hc
    have hc0 : checkE e = 0 := Classical.not_not.1 hc
    have h2 : TabG (r.see e.ac e.az).tab := by rw [(see_tab r e.ac e.az).1]; exact h
    have hq := hr.see e.ac e.az
    generalize r.see e.ac e.az = q at h2 hq
    unfold RepV.mergeIn
    split
    · rename_i hw
      unfold RepV.stay
      split
      · rename_i hd
        simp only [Bool.and_eq_true] at hd
        have hk : thas q.tab e.key = true := by
          unfold RepV.way at hw
          cases hb : thas q.tab e.key with
          | true => rfl
          | false =>
            rw [hb] at hw
            simp only [Bool.false_and, Bool.false_eq_true, if_false] at hw
            split at hw
            · cases hw
            · split at hw
              · cases hw
              · split at hw <;> cases hw
        have hg := TabG.get h2 hq.tab hk
        refine TabG.put h2 _ (checkE_age hg (fun x => by rw [x] at hd; cases hd.1) ?_)
        have hage := (checkE_ok hg).2.2.2.2.2.2.2 hd.1
        have eage := (checkE_ok hc0).2.2.2.2.2.2.2 hd.2
        unfold keptB at hage eage
        simp only [Bool.and_eq_true, decide_eq_true_eq] at hage eage
        unfold RepV.agedV
        rw [if_neg (by rw [hd.2]; decide)]
        split
        · omega
        · rw [if_pos hd.1]; split <;> omega
      · exact h2
    · exact h2
    · exact h2
    · exact woken_tabG h2 _
    · exact set_tabG h2 _
theorem put_tabG (h : TabG r.tab) (k v : ByteArray) : TabG (r.put k v).tab := by
  unfold RepV.put
  split
  · exact h
  · unfold RepV.write
    split
    · exact h
    · split
      · exact h
      · split
        · exact h
        · exact set_tabG (r := { r with cnt := r.cnt + 1 }) h _
end RepV
theorem mmL_tabG {H : Int} (es : List EnV) {s : MilV} (h : TabG s.r.tab) (hr : RepOK s.r) : TabG (mmL H s es).r.tab := by
  unfold mmL
  induction es generalizing s with
  | nil => exact h
  | cons e es ih => exact ih (s := mmStep H s e) (RepV.merge_tabG h hr e) (hr.merge e)
/-- What was known are marks of what came. -/
theorem mmL_known {H : Int} (es : List EnV) {s : MilV} (h : ∀ m ∈ s.known, markB m = true) (he : ∀ e ∈ es, checkE e = 0) : ∀ m ∈ (mmL H s es).known, markB m = true := by
  unfold mmL
  induction es generalizing s with
  | nil => exact h
  | cons e es ih =>
    refine ih (s := mmStep H s e) (fun m hm => ?_) (fun x hx => he x (List.mem_cons_of_mem _ hx))
    unfold mmStep at hm
    dsimp only at hm
    split at hm
    · exact h m hm
    · rcases List.mem_append.1 hm with g | g
      · exact h m g
      · rw [List.mem_singleton] at g
        rw [g]; exact check_mark (he e List.mem_cons_self)
/-- What is told may be. -/
theorem toldL_good {r : RepV} {ch : Int} {ks : List ByteArray} {l : List TkV} (h : TabG r.tab) (hr : RepOK r) : ∀ e ∈ toldL r ch ks l, checkE e = 0 := fun e he => by
  obtain ⟨t, _, hf, _, rfl⟩ := toldL_mem he
  unfold freshB at hf
  rw [Bool.and_eq_true] at hf
  exact h.get hr.tab hf.1
/-- Of fresh rumors something is told. -/
theorem toldL_pos {r : RepV} {ch : Int} {l : List TkV} (hc : 1 ≤ ch) (hl : l ≠ []) (hf : ∀ t ∈ l, freshB r t = true) : 1 ≤ (toldL r ch [] l).length := by
  have hmono : ∀ (l : List TkV) (o : List EnV), o.length ≤ (l.foldl (fun o t => if (decide ((o.length : Int) < ch) && (freshB r t && !hasS [] t.m.key)) = true then o ++ [tget r.tab t.m.key] else o) o).length := by
    intro l
    induction l with
    | nil => intro o; exact Nat.le_refl _
    | cons t l ih =>
      intro o
      rw [List.foldl_cons]
      refine Nat.le_trans ?_ (ih _)
      split
      · rw [List.length_append]; omega
      · exact Nat.le_refl _
  unfold toldL
  cases l with
  | nil => exact absurd rfl hl
  | cons t l =>
    rw [List.foldl_cons]
    have h1 : (decide ((([] : List EnV).length : Int) < ch) && (freshB r t && !hasS [] t.m.key)) = true := by
      rw [hf t List.mem_cons_self]
      have : hasS [] t.m.key = false := rfl
      rw [this, decide_eq_true (by show (0 : Int) < ch; omega)]
      rfl
    rw [if_pos h1]
    exact Nat.le_trans (by simp) (hmono l _)
theorem goodM_es {m : MsgV} {ks : List MkV} {es : List EnV} (h : goodM m ks es = true) : ∀ e ∈ es, checkE e = 0 := by
  unfold goodM goodX at h
  simp only [Bool.and_eq_true] at h
  have h2 := h.2.2.2.2.2.2.2.2.2.2.2
  unfold enCAll at h2
  simp only [Bool.and_eq_true, Bool.not_eq_true'] at h2
  intro e he
  have := h2.2.2
  unfold enCAny at this
  rw [List.any_eq_false] at this
  have := this e he
  unfold enF at this
  simpa using this
theorem goodM_en {m : MsgV} {ks : List MkV} {es : List EnV} (h : goodM m ks es = true) : es.length ≤ 8 := by
  unfold goodM goodX at h
  simp only [Bool.and_eq_true] at h
  have h2 := h.2.2.2.2.2.2.2.2.2.2.2
  unfold enCAll at h2
  simp only [Bool.and_eq_true, decide_eq_true_eq] at h2
  have h3 := h2.2.1
  unfold hiE at h3
  split at h3
  · omega
  · split at h3 <;> omega
theorem nodeB_iff {nn site p : Int} : nodeB nn site p = true ↔ 0 ≤ p ∧ p < nn ∧ p ≠ site := by
  unfold nodeB; simp
theorem pickV_mem {D zs : List Int} (h : zs ≠ []) : pickV D zs ∈ zs := by
  have hl : 1 ≤ (zs.length : Int) := by cases zs with
    | nil => exact absurd rfl h
    | cons x l => simp; omega
  have hr := drawV_range (l := D) hl
  unfold pickV
  have hk : (drawV D zs.length).toNat < zs.length := by omega
  rw [List.getD_eq_getElem?_getD, List.getElem?_eq_getElem hk]
  exact List.getElem_mem hk
/-- What holds of a mill between the acts. -/
structure CMil (c : List Int) (sf : Int) (q : RepV) (l : List TkV) : Prop where
  ok : RepOK q
  calm : CalmD q.d
  hot : HotI (c.getD 14 0) (c.getD 15 0) l
  tab : TabG q.tab
  cfg : q.cfgV = (baseR c sf).cfgV
theorem CMil.site {c : List Int} {sf : Int} {q : RepV} {l : List TkV} (h : CMil c sf q l) : q.site = sf := by
  have := h.cfg; unfold RepV.cfgV at this; simp only [Prod.mk.injEq] at this; exact this.2.2.2.2.2
/-- At most one letter, that may be, to another node. -/
structure LetOK (c : List Int) (sf : Int) (Ls : List LetV) (KN : List MkV) (TL : List EnV) (k : Nat) (ka : Option Addr) (kn kc : Nat) (ta : Option Addr) (tn tc : Nat) : Prop where
  one : Ls.length ≤ 1
  msg : ∀ x ∈ Ls, x.m = ltrM k ka kn kc ta tn tc ∧ 0 ≤ x.to ∧ x.to < c.getD 0 0 ∧ x.to ≠ sf
  kk : k = 14 ∨ k = 15
  good : Ls ≠ [] → (kn : Int) ≤ hi7 k ∧ lo8 k ≤ (tn : Int) ∧ (tn : Int) ≤ 8
  marks : ∀ x ∈ KN, markB x = true
  ents : ∀ x ∈ TL, checkE x = 0
theorem LetOK.none {c : List Int} {sf : Int} : LetOK c sf [] [] [] 14 none 0 0 none 0 0 := ⟨by simp, (fun _ h => by cases h), .inl rfl, fun h => absurd rfl h, (fun _ h => by cases h), (fun _ h => by cases h)⟩
theorem takeM_c {c : List Int} {sf : Int} {q : RepV} {l : List TkV} (h : CMil c sf q l) (hC : CfgOK c) (ks : List MkV) (es : List EnV) : CMil c sf (takeM c q l ks es).r (takeM c q l ks es).l := by
  have hM := MilI.all (s := ⟨q, bumpsL (c.getD 15 0) l ks, [], []⟩) ⟨h.ok, h.calm, h.hot.bumps _⟩ hC.n14.1 hC.n15.1 es
  exact ⟨hM.ok, hM.calm, hM.hot, mmL_tabG es h.tab h.ok, (mmL_cfg _ _ _).trans h.cfg⟩
end Go.Proofs.YtojfjbbggpfijaaGreatDoor
