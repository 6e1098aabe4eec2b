/- OverlayTells, OverlayKeeps: the plain laws. -/
import Derived.Test.YtbpdchaeakihkaaGreatPaths
namespace Go.Proofs.YtbpdchaeakihkaaGreat
open Go.RowKit Go.Qd

/-! What the changes tell. -/
def updT (T : Int → Bool) (C : List (Int × Bool)) : Int → Bool := C.foldl (fun T x q => if q = x.1 then x.2 else T q) T
def AltC (T : Int → Bool) (C : List (Int × Bool)) : Prop := ∀ i (h : i < C.length), updT T (C.take i) C[i].1 ≠ C[i].2 ∧ 0 ≤ C[i].1 ∧ C[i].1 < 12
theorem updT_snoc (T : Int → Bool) (C : List (Int × Bool)) (x : Int × Bool) : updT T (C ++ [x]) = fun q => if q = x.1 then x.2 else updT T C q := by unfold updT; rw [List.foldl_append]; rfl
theorem updT_take {T : Int → Bool} {C : List (Int × Bool)} {i : Nat} (h : i < C.length) : updT T (C.take (i + 1)) = fun q => if q = C[i].1 then C[i].2 else updT T (C.take i) q := by
  rw [List.take_succ_eq_append_getElem h, updT_snoc]
theorem AltC.nil (T : Int → Bool) : AltC T [] := fun _ h => by cases h
theorem AltC.snoc {T : Int → Bool} {C : List (Int × Bool)} {x : Int × Bool} (h : AltC T C) (hx : updT T C x.1 ≠ x.2 ∧ 0 ≤ x.1 ∧ x.1 < 12) : AltC T (C ++ [x]) := by
  intro i hi
  by_cases hl : i < C.length
  · rw [List.take_append_of_le_length (by omega), List.getElem_append_left hl]; exact h i hl
  · have e : i = C.length := by simp at hi; omega
    subst e
    have e1 : (C ++ [x]).take C.length = C := by simp
    have e2 : (C ++ [x])[C.length]'hi = x := by simp
    rw [e1, e2]; exact hx
structure TI (T : Int → Bool) (O : OV) : Prop where
  a : AltC T O.C
  e : ∀ q, updT T O.C q = memB O.V.a q
theorem TI.start {T : Int → Bool} {O : OV} (hc : O.C = []) (h : ∀ q, T q = memB O.V.a q) : TI T O := ⟨by rw [hc]; exact .nil T, fun q => by rw [hc]; exact h q⟩
theorem node12 {O : OV} (w : WOK O) {x : Int} (h : onodeB O x = true) : 0 ≤ x ∧ x < 12 := there_lt w.ok (onode_there h)
theorem Prim.tell {k : Nat} {O P : OV} {T : Int → Bool} (g : Prim k O P) (w : WOK O) (h : TI T O) : TI T P := by
  cases g with
  | raise p hp =>
    unfold raiseO
    by_cases hr : raiseOk O.V p = true
    · rw [if_pos hr]
      obtain ⟨h1, h2, h3⟩ := raiseOk_iff.1 hr
      have hp12 := node12 w hp
      by_cases h0 : 0 ≤ raiseG O.V O.D
      · obtain ⟨e, hm, _⟩ := raiseG_full w.ok.v (D := O.D) ((raiseG_iff w.ok.v).1 h0)
        have hf := (raiseG_iff w.ok.v).1 h0
        have hg12 := node12 w (w.n.1 _ hm)
        have t1 : AltC T (O.C ++ [(raiseG O.V O.D, false)]) := h.a.snoc ⟨by rw [h.e, memB_yes hm]; exact Bool.noConfusion, hg12⟩
        have hne : p ≠ raiseG O.V O.D := fun g => h3 (g ▸ hm)
        have t2 : AltC T (O.C ++ [(raiseG O.V O.D, false)] ++ [(p, true)]) := t1.snoc ⟨by
          rw [updT_snoc]; simp only [hne, if_false]; rw [h.e, memB_no h3]; exact Bool.noConfusion, hp12⟩
        refine ⟨by simp only [h0, if_true]; exact t2, fun q => ?_⟩
        simp only [h0, if_true]
        rw [updT_snoc, updT_snoc]
        have ha : (raiseV O.V O.D p).a = raiseA O.V O.D p := by unfold raiseV; rw [if_pos hr]
        show _ = memB (raiseV O.V O.D p).a q
        rw [ha]
        symm
        apply memB_eq
        unfold raiseA
        rw [addL_mem]
        by_cases q1 : q = p
        · simp [q1]
        · by_cases q2 : q = raiseG O.V O.D
          · show _ ↔ (if q = p then true else if q = raiseG O.V O.D then false else updT T O.C q) = true
            rw [if_neg q1, if_pos q2]
            constructor
            · rintro (g | ⟨_, g⟩)
              · exact absurd g q1
              · exact absurd (q2.trans e) (g hf)
            · intro g; cases g
          · simp only [q1, if_false, q2, false_or]
            rw [h.e]
            constructor
            · exact fun g => memB_yes g.1
            · exact fun g => ⟨memB_iff.1 g, fun _ hh => q2 (hh.trans e.symm)⟩
      · have t1 : AltC T (O.C ++ [(p, true)]) := h.a.snoc ⟨by rw [h.e, memB_no h3]; exact Bool.noConfusion, hp12⟩
        refine ⟨by simp only [h0, if_false]; exact t1, fun q => ?_⟩
        simp only [h0, if_false]
        rw [updT_snoc]
        have ha : (raiseV O.V O.D p).a = raiseA O.V O.D p := by unfold raiseV; rw [if_pos hr]
        show _ = memB (raiseV O.V O.D p).a q
        rw [ha]
        symm
        apply memB_eq
        unfold raiseA
        rw [addL_mem]
        have hf : ¬ O.V.am ≤ (O.V.a.length : Int) := fun g => h0 ((raiseG_iff w.ok.v).2 g)
        by_cases q1 : q = p
        · simp [q1]
        · simp only [q1, if_false, false_or]
          rw [h.e]
          exact ⟨fun g => memB_yes g.1, fun g => ⟨memB_iff.1 g, fun hh => absurd hh hf⟩⟩
    · rw [if_neg hr]; exact h
  | lower p =>
    unfold lowerO
    by_cases hr : memB O.V.a p = true
    · rw [if_pos hr]
      have hm := memB_iff.1 hr
      refine ⟨h.a.snoc ⟨by rw [h.e, hr]; exact Bool.noConfusion, node12 w (w.n.1 _ hm)⟩, fun q => ?_⟩
      show updT T (O.C ++ [(p, false)]) q = memB (lowerV O.V O.D p).a q
      rw [updT_snoc]
      have ha : (lowerV O.V O.D p).a = dropL O.V.a p := by unfold lowerV; rw [if_pos hr]
      rw [ha]
      symm
      apply memB_eq
      rw [mem_dropL]
      by_cases q1 : q = p
      · simp [q1]
      · show _ ↔ (if q = p then false else updT T O.C q) = true
        rw [if_neg q1, h.e]
        exact ⟨fun g => memB_yes g.1, fun g => ⟨memB_iff.1 g, q1⟩⟩
    · rw [if_neg hr]; exact h
  | learn p _ => exact ⟨h.a, fun q => by show updT T O.C q = memB (learnV O.V O.D p).a q; rw [h.e, learn_told.1]⟩
  | _ => exact ⟨h.a, h.e⟩
theorem Path.tell {n : Nat} {O P : OV} {T : Int → Bool} (h : Path n O P) (w : WOK O) (t : TI T O) : TI T P := by
  induction h with
  | refl => exact t
  | step h g ih => exact g.tell (h.wok w) (ih w t)

/-! Nobody is forgotten. -/
def inV (V : VV) (x : Int) : Prop := x ∈ V.a ∨ x ∈ V.p
theorem sorted_len : ∀ {l : List Int} {lo hi : Int}, l.Pairwise (· < ·) → (∀ x ∈ l, lo ≤ x ∧ x < hi) → lo ≤ hi → (l.length : Int) ≤ hi - lo
  | [], lo, hi, _, _, h => by simp; omega
  | a :: l, lo, hi, hp, hb, h => by
    obtain ⟨h1, h2⟩ := List.pairwise_cons.1 hp
    have ha := hb a (by simp)
    have := sorted_len (lo := a + 1) (hi := hi) h2 (fun x hx => ⟨by have := h1 x hx; omega, (hb x (by simp [hx])).2⟩) (by omega)
    simp only [List.length_cons]; omega
/-- There is room for one more. -/
theorem roomN {O : OV} {l : List Int} {q : Int} (hs : l.Pairwise (· < ·)) (hl : ∀ x ∈ l, onodeB O x = true) (hq : onodeB O q = true) (hself : 0 ≤ O.V.self ∧ O.V.self < O.cfg.getD 0 0) (hn : q ∉ l) (hr : O.cfg.getD 0 0 - 1 ≤ O.V.pm) : ¬ O.V.pm ≤ (l.length : Int) := by
  intro h
  have h1 := insL_sorted hs hn
  have hself2 : O.V.self ∉ insL l q := fun g => by
    rcases mem_insL.1 g with g | g
    · exact (onode_iff.1 (hl _ g)).2.2 rfl
    · exact (onode_iff.1 hq).2.2 g.symm
  have h2 := insL_sorted h1 hself2
  have := sorted_len (lo := 0) (hi := O.cfg.getD 0 0) h2 (fun x hx => by
    rcases mem_insL.1 hx with g | g
    · rcases mem_insL.1 g with g | g
      · have := onode_iff.1 (hl _ g); exact ⟨this.1, this.2.1⟩
      · rw [g]; have := onode_iff.1 hq; exact ⟨this.1, this.2.1⟩
    · rw [g]; exact hself) (by omega)
  rw [insL_len, insL_len] at this
  omega
theorem Prim.keep {k : Nat} {O P : OV} (g : Prim k O P) (w : WOK O) (hself : 0 ≤ O.V.self ∧ O.V.self < O.cfg.getD 0 0) (hr : O.cfg.getD 0 0 - 1 ≤ O.V.pm) : ∀ x, inV O.V x → inV P.V x := by
  have hV := w.ok.v
  cases g with
  | raise p hp =>
    rw [(raiseO_V O p).1]
    intro x hx
    by_cases hk : raiseOk O.V p = true
    · unfold raiseV
      rw [if_pos hk]
      obtain ⟨h1, h2, h3⟩ := raiseOk_iff.1 hk
      show x ∈ raiseA O.V O.D p ∨ x ∈ (if _ then _ else _)
      by_cases hxq : x = p
      · exact .inl (addL_mem.2 (.inl hxq))
      · rcases hx with hx | hx
        · by_cases hf : O.V.am ≤ O.V.a.length
          · obtain ⟨e, hm, h0⟩ := raiseG_full hV (D := O.D) hf
            by_cases hg : x = raiseG O.V O.D
            · rw [if_pos h0]; exact .inr (addL_mem.2 (.inl hg))
            · exact .inl (addL_mem.2 (.inr ⟨hx, fun _ hh => hg (hh.trans e.symm)⟩))
          · exact .inl (addL_mem.2 (.inr ⟨hx, fun hh => absurd hh hf⟩))
        · right
          have hxd : x ∈ dropL O.V.p p := mem_dropL.2 ⟨hx, hxq⟩
          by_cases h0 : 0 ≤ raiseG O.V O.D
          · rw [if_pos h0]
            obtain ⟨e, hm, _⟩ := raiseG_full hV (D := O.D) ((raiseG_iff hV).1 h0)
            exact addL_mem.2 (.inr ⟨hxd, fun hh => absurd hh (roomN (dropL_sorted hV.sp p) (fun y hy => w.n.2 y (mem_dropL.1 hy).1) (w.n.1 _ hm) hself (fun hh => hV.dis _ hm (mem_dropL.1 hh).1) hr)⟩)
          · rw [if_neg h0]; exact hxd
    · unfold raiseV; rw [if_neg hk]; exact hx
  | lower p =>
    rw [(lowerO_V O p).1]
    intro x hx
    by_cases hk : memB O.V.a p = true
    · unfold lowerV
      rw [if_pos hk]
      have hq := memB_iff.1 hk
      show x ∈ dropL O.V.a p ∨ x ∈ addL O.D O.V.p O.V.pm p
      rcases hx with hx | hx
      · by_cases hxq : x = p
        · exact .inr (addL_mem.2 (.inl hxq))
        · exact .inl (mem_dropL.2 ⟨hx, hxq⟩)
      · exact .inr (addL_mem.2 (.inr ⟨hx, fun hh => absurd hh (roomN hV.sp w.n.2 (w.n.1 _ hq) hself (hV.dis _ hq) hr)⟩))
    · unfold lowerV; rw [if_neg hk]; exact hx
  | learn p hp =>
    intro x hx
    show inV (learnV O.V O.D p) x
    by_cases hk : learnOk O.V p = true
    · unfold learnV
      rw [if_pos hk]
      obtain ⟨h1, h2, h3, h4⟩ := learnOk_iff.1 hk
      rcases hx with hx | hx
      · exact .inl hx
      · exact .inr (addL_mem.2 (.inr ⟨hx, fun hh => absurd hh (roomN hV.sp w.n.2 (onode_of hp h2) hself h4 hr)⟩))
    · unfold learnV; rw [if_neg hk]; exact hx
  | _ => exact fun _ h => h
theorem Path.keep {n : Nat} {O P : OV} (h : Path n O P) (w : WOK O) (hself : 0 ≤ O.V.self ∧ O.V.self < O.cfg.getD 0 0) (hr : O.cfg.getD 0 0 - 1 ≤ O.V.pm) : ∀ x, inV O.V x → inV P.V x := by
  induction h with
  | refl => exact fun _ h => h
  | step h g ih =>
    have s := h.same
    exact fun x hx => g.keep (h.wok w) (by rw [s.s, s.c]; exact hself) (by rw [s.c, s.p]; exact hr) x (ih w hself hr x hx)

/-- From a node that was heard on. -/
theorem path_takeH {O : OV} (w : WOK O) {p : Int} {m : MsgV} (hp : onodeB O p = true) {k : Nat} (h1 : 1 ≤ k) (h9 : k ≤ 9) (hk : m.kind = k) (hl : m.ps.length = m.pn) (hf : fitsB O m k = true) (pa : Option Addr) (pn pc : Nat) :
    Path 0 (heardO O p) (takeO O p m k pa pn pc) := by
  have g := path_heard hp
  have gw := g.wok w
  have gp : onodeB (heardO O p) p = true := by rw [onode_same g.same.c g.same.s]; exact hp
  have tr : ∀ x, thereB O x = true → thereB (heardO O p) x = true := fun x hx => by unfold thereB at hx ⊢; rw [g.same.c]; exact hx
  have hcase : k = 1 ∨ k = 2 ∨ k = 3 ∨ k = 4 ∨ k = 5 ∨ k = 6 ∨ k = 7 ∨ k = 8 ∨ k = 9 := by omega
  rcases hcase with rfl | rfl | rfl | rfl | rfl | rfl | rfl | rfl | rfl
  · have h2 : Path 0 (heardO O p) (joinedO O p) := Path.one (.raise p gp)
    have w2 := h2.wok gw
    have hp2 : onodeB (joinedO O p) p = true := by rw [onode_same h2.same.c h2.same.s]; exact gp
    refine h2.thenP (path_sends fun x hx => ?_)
    unfold fwdL at hx
    obtain ⟨q, hq, rfl⟩ := List.mem_map.1 hx
    exact ⟨w2.n.1 q (others_mem hq).1, fwdM_ok w2.ok (onode_there hp2)⟩
  · obtain ⟨a1, a2, a3, a4⟩ := fits_msg (.inl rfl) hk hl w.ok hf
    exact path_forward gw a1 hk (tr _ a2) pa pc
  · exact path_neighbor gp m.high
  · exact path_answer gp true
  · exact path_answer gp false
  · exact Path.one (.lower p)
  · obtain ⟨a1, a2, a3, a4⟩ := fits_msg (.inr rfl) hk hl w.ok hf
    exact path_shuffle gw a1 hk (tr _ a2) (fun x hx => tr x (a3 x hx)) a4 pa pn pc
  · exact path_learnAll fun x hx => tr x ((fits_nums hf).2.2.2 x hx)
  · exact .refl _
theorem heard_in {O : OV} (w : WOK O) {p : Int} (hp : onodeB O p = true) : inV (heardO O p).V p := by
  have e : (heardO O p).V = learnV O.V O.D p := by unfold heardO learnO; split <;> rfl
  rw [e]
  by_cases hr : learnOk O.V p = true
  · exact .inr (memB_iff.1 (learn_told.2 hr))
  · unfold learnV; rw [if_neg hr]
    by_cases h1 : p ∈ O.V.a
    · exact .inl h1
    · refine .inr (Classical.byContradiction fun g => hr ?_)
      exact learnOk_iff.2 ⟨nodeB_iff.2 (node12 w hp), (onode_iff.1 hp).2.2, h1, g⟩
theorem raise_inV {O : OV} (w : WOK O) {p : Int} (hp : onodeB O p = true) : p ∈ (raiseO O p).V.a := by
  rw [(raiseO_V O p).1]
  by_cases hr : raiseOk O.V p = true
  · exact memB_iff.1 (raise_told w.ok.v hr).1
  · unfold raiseV; rw [if_neg hr]
    refine Classical.byContradiction fun g => hr ?_
    exact raiseOk_iff.2 ⟨nodeB_iff.2 (node12 w hp), (onode_iff.1 hp).2.2, g⟩

/-- What holds between the acts, the sizes too. -/
structure LX (c : List Int) (me : Int) (k : Nat) (O : OV) : Prop where
  li : LI c me k O
  am : O.V.am = c.getD 5 0
  pm : O.V.pm = c.getD 6 0
theorem LX.new {c : List Int} {self : Int} {D : List Int} (hc : c.length = 20) (hr : rightB c = true) (hs : 0 ≤ self ∧ self < c.getD 0 0) : LX c self 0 (newO c self D) := ⟨LI.new hc hr hs, rfl, rfl⟩
theorem LX.step {c : List Int} {me : Int} {k : Nat} {O X : OV} {x : OAct} {e : Int} (h : LX c me k O) (hs : 0 ≤ me ∧ me < c.getD 0 0) (hl : x.m.ps.length = x.m.pn) (hst : StepR O x X e) : LX c me (k + 1) (freshO X) := by
  rcases step_path h.li.wk h.li.nm (h.li.self12 hs) hl hst with ⟨_, rfl, _⟩ | ⟨_, j, hj, hp⟩
  · rw [fresh_same h.li.ll h.li.cc]; exact ⟨h.li.next, h.am, h.pm⟩
  · exact ⟨h.li.path hj hp, hp.same.a.trans h.am, hp.same.p.trans h.pm⟩
/-- What was known is known; and who was spoken of. -/
theorem LX.keep {c : List Int} {me : Int} {k : Nat} {O X : OV} {x : OAct} {e : Int} (h : LX c me k O) (hs : 0 ≤ me ∧ me < c.getD 0 0) (hr : c.getD 0 0 - 1 ≤ c.getD 6 0) (hl : x.m.ps.length = x.m.pn) (hst : StepR O x X e) :
    (∀ y, inV O.V y → inV X.V y) ∧ (e = 0 → x.kind = 0 ∨ x.kind = 2 ∨ x.kind = 3 → inV X.V x.peer) := by
  have hself : 0 ≤ O.V.self ∧ O.V.self < O.cfg.getD 0 0 := by rw [h.li.sl, h.li.cf]; exact hs
  have hr' : O.cfg.getD 0 0 - 1 ≤ O.V.pm := by rw [h.li.cf, h.pm]; exact hr
  refine ⟨?_, fun he hk => ?_⟩
  · rcases step_path h.li.wk h.li.nm (h.li.self12 hs) hl hst with ⟨_, rfl, _⟩ | ⟨_, j, hj, hp⟩
    · exact fun _ h => h
    · exact hp.keep h.li.wk hself hr'
  · cases hst with
    | joinNo _ _ => cases he
    | join _ hn => exact .inl (raise_inV h.li.wk hn)
    | leave h1 => rw [h1] at hk; rcases hk with h | h | h <;> cases h
    | heardNo _ _ => cases he
    | heard _ hn => exact heard_in h.li.wk hn
    | take _ ma mq ea eq X e ht =>
      cases ht with
      | no _ => cases he
      | bad _ _ => cases he
      | yes hn k h1 h9 hkk hf pa pn pc =>
        have g := path_heard hn
        exact (path_takeH h.li.wk hn h1 h9 hkk hl hf pa pn pc).keep (g.wok h.li.wk) (by rw [g.same.s, g.same.c]; exact hself) (by rw [g.same.c, g.same.p]; exact hr') _ (heard_in h.li.wk hn)
    | tick h1 pa pn pc => rcases hk with h | h | h; exact absurd h h1.1; exact absurd h h1.2.2.1; exact absurd h h1.2.2.2
end Go.Proofs.YtbpdchaeakihkaaGreat
