/- NetPlays: each act, of the net and of the document's, in the relation's words. -/
import Derived.Test.YtnibgchgcggfbabNetRI
namespace Go.Proofs.Ytnibgchgcggfbab
open Go.RowKit Go.Qd

def SendN (N : NetV) (x y : Int) (n : Nat) (bs : List Int) (N' : NetV) : Prop := (linkB N.nodes x y = true ∧ ∃ a c, N' = putN N ⟨x, y, a, n, c, bs, false⟩) ∨ (linkB N.nodes x y = false ∧ N' = N)
def sendOk (N : NetV) (x y : Int) : Bool := linkB N.nodes x y && decide ((N.ps.length : Int) < N.room)
def DropN (N : NetV) (i : Int) (N' : NetV) : Prop := (∃ j : Nat, i = j ∧ j < N.ps.length ∧ N' = dropN N j) ∨ (hasB N i = false ∧ N' = N)
def loseC (N : NetV) (i : Int) : Int := if hasB N i then 0 else 3
def at? (N : NetV) (i : Int) : Option PV := if hasB N i then N.ps[i.toNat]? else none
def takeO (N : NetV) (i : Int) : Int × List Int × Int := match at? N i with
  | none => (0, [], 3)
  | some p => if cutB N p.f p.t then (0, [], 13) else (p.t, p.bs, 0)
def CopyN (N : NetV) (i : Int) (N' : NetV) : Prop := (∃ (j : Nat) (a : Option Addr) (c : Nat) (hj : j < N.ps.length), i = j ∧ N' = putN N { N.ps[j] with a := a, c := c }) ∨ (hasB N i = false ∧ N' = N)
def copyC (N : NetV) (i : Int) : Int := if hasB N i then (if (N.ps.length : Int) < N.room then 0 else 7) else 3
def turnC (N : NetV) (i at_ z : Int) : Int := match at? N i with
  | none => 3
  | some p => turnE p at_ z
def TurnN (N : NetV) (i at_ z : Int) (N' : NetV) : Prop := (∃ (j m : Nat) (hj : j < N.ps.length), i = j ∧ at_ = m ∧ turnE N.ps[j] at_ z = 0 ∧ N' = { N with ps := N.ps.set j (N.ps[j].turned m (xorB (N.ps[j].bs.getD m 0) z)) }) ∨ (turnC N i at_ z ≠ 0 ∧ N' = N)
def cutC' (N : NetV) (x y : Int) : Int := if linkB N.nodes x y then 0 else 1

theorem at_yes {N : NetV} {j : Nat} (hj : j < N.ps.length) : at? N (j : Int) = some N.ps[j] := by
  unfold at?; rw [if_pos (hasB_yes hj)]; simp [hj]
theorem at_no {N : NetV} {i : Int} (h : hasB N i = false) : at? N i = none := by unfold at?; rw [h]; rfl

theorem linkB_nat {nodes x y : Int} (h : linkB nodes x y = true) (hn : nodes ≤ 12) : ∃ f t : Nat, x = f ∧ y = t ∧ f < 12 ∧ t < 12 := by
  rw [linkB_eq] at h
  simp only [decide_eq_true_eq] at h
  exact ⟨x.toNat, y.toNat, by omega, by omega, by omega, by omega⟩

theorem turnE_zero {p : PV} {a z : Int} (h : turnE p a z = 0) : p.sp = false ∧ (∃ m : Nat, a = m ∧ m < p.n) ∧ z ≠ 0 := by
  unfold turnE at h
  by_cases h1 : p.sp = true
  · rw [if_pos h1] at h; cases h
  · rw [if_neg h1] at h
    by_cases h2 : a < 0 ∨ (p.n : Int) ≤ a
    · rw [if_pos h2] at h; cases h
    · rw [if_neg h2] at h
      by_cases h3 : z = 0
      · rw [if_pos h3] at h; cases h
      · exact ⟨by simpa using h1, ⟨a.toNat, by omega, by omega⟩, h3⟩

section
variable {W w : World} {R : List HP} {post : Ending → World → Prop} {b k : Nat} {N : NetV} {M : RN} {qs E : List PV}

theorem PS.room (h : PS k N M qs E) (hk : k ≤ 4000) : N.ps.length ≤ 4096 ∧ (0 ≤ N.dropped ∧ N.dropped ≤ 4611686018427387904) := ⟨by have := h.len; omega, h.low, by have := h.high; omega⟩

theorem ps_send {x y : Int} {ao : Option Addr} {n c : Nat} {bs : List Int} (st : St W w (NetA b N :: R)) (h : PS k N M qs E) (hk : k ≤ 4000) (rx : RdS W 1 ao n c (bvs bs)) (hn : n ≤ 100)
    (K : ∀ w' N', St W w' (NetA b N' :: R) → SendN N x y n bs N' → post (.returned (.bool (sendOk N x y))) w') : Calls Try.prog 8 #[.pointer (some ⟨b, 0, none⟩), .int .i64 x, .int .i64 y, .slice ao n c] w post :=
  send_c st (rx.rds _) (by omega) (by have := h.rm; omega) (h.room hk).2 fun w' a' c' y' n' => by
    by_cases hl : linkB N.nodes x y = true
    · exact K w' _ (y' hl) (.inl ⟨hl, a', c', rfl⟩)
    · have hf : linkB N.nodes x y = false := by simpa using hl
      exact K w' _ (n' hf) (.inr ⟨hf, rfl⟩)

theorem rs_send {x y : Int} {ao : Option Addr} {n c : Nat} {bs : List Int} (st : St W w (OwnS 4 M.a M.n M.c (pcells qs) :: sepL (E.map PV.bytes) :: R)) (h : PS k N M qs E) (hk : k ≤ 4000) (rx : RdS W 1 ao n c (bvs bs)) (hn : n ≤ 100)
    (K : ∀ w' M' qs' E', St W w' (OwnS 4 M'.a M'.n M'.c (pcells qs') :: sepL (E'.map PV.bytes) :: R) → (∀ N', SendN N x y n bs N' → PS (k + 1) N' M' qs' E') → post (.returned (.tuple #[.agg (rnC M').toArray, .bool (sendOk N x y)])) w') :
    Calls Try.prog 30 #[.agg (rnC M).toArray, .int .i64 x, .int .i64 y, .slice ao n c] w post := by
  by_cases hl : linkB N.nodes x y = true
  · by_cases hr : (N.ps.length : Int) < N.room
    · have e : sendOk N x y = true := by unfold sendOk; simp [hl, hr]
      rw [e] at K
      refine rsend_yes (ps := qs) st OwnS.rds (rx.rds _) (by omega) (by rw [h.mn]; exact hl) (by rw [h.ml, h.mr]; exact hr) (by rw [h.mr]; exact h.rm.2) fun a' c' ab cb w' s => ?_
      refine K w' { M with a := a', n := M.n + 1, c := c' } (qs ++ [⟨x, y, ab, n, cb, bs, false⟩]) (E ++ [⟨x, y, ab, n, cb, bs, false⟩]) ?_ fun N' hN => ?_
      · have s1 := bytes_snoc (p := ⟨x, y, ab, n, cb, bs, false⟩) (s.perm [3, 1])
        exact ((s1.perm [2]).drop).perm [1]
      · rcases hN with ⟨_, a, c0, rfl⟩ | ⟨g, _⟩
        · exact h.put (p := ⟨x, y, a, n, c0, bs, false⟩) (q := ⟨x, y, ab, n, cb, bs, false⟩) hr rfl ⟨hl, hn⟩ (fun z hz => hz.more ⟨x, y, ab, n, cb, bs, false⟩) ⟨⟨x, y, ab, n, cb, bs, false⟩, by simp, rfl, rfl, rfl, rfl⟩ a' c'
        · rw [hl] at g; cases g
    · have e : sendOk N x y = false := by unfold sendOk; simp [hr]
      rw [e] at K
      refine rsend_full st (rx.rds _) (by omega) (by rw [h.mn]; exact hl) (by rw [h.ml, h.mr]; exact hr) (by rw [h.md]; exact (h.room hk).2) fun w' s => ?_
      refine K w' { M with dropped := M.dropped + 1 } qs E s fun N' hN => ?_
      rcases hN with ⟨_, a, c0, rfl⟩ | ⟨g, _⟩
      · exact h.full hr
      · rw [hl] at g; cases g
  · have hf : linkB N.nodes x y = false := by simpa using hl
    have e : sendOk N x y = false := by unfold sendOk; simp [hf]
    rw [e] at K
    refine rsend_link st (by rw [h.mn]; exact hf) fun w' s => K w' M qs E s fun N' hN => ?_
    rcases hN with ⟨g, _⟩ | ⟨_, rfl⟩
    · rw [hf] at g; cases g
    · exact h.more

theorem PS.hasE (h : PS k N M qs E) (i : Int) : hasR M.n i = hasB N i := by unfold hasR hasB; rw [h.ml]

theorem ps_lose {i : Int} (st : St W w (NetA b N :: R)) (h : PS k N M qs E) (hk : k ≤ 4000)
    (K : ∀ w' N', St W w' (NetA b N' :: R) → DropN N i N' → post (.returned (.int .i64 (loseC N i))) w') : Calls Try.prog 21 #[.pointer (some ⟨b, 0, none⟩), .int .i64 i] w post := by
  unfold loseC at K
  by_cases hh : hasB N i = true
  · rw [if_pos hh] at K
    obtain ⟨j, rfl, hj⟩ := hasB_nat hh
    exact lose_c st hj (h.room hk).1 fun w' s => K w' _ s (.inl ⟨j, rfl, hj, rfl⟩)
  · have hf : hasB N i = false := by simpa using hh
    rw [if_neg hh] at K
    exact lose_no st hf (K w N st (.inr ⟨hf, rfl⟩))

theorem PS.dropAll (h : PS k N M qs E) {i : Int} {N' : NetV} (hN : DropN N i N') {j : Nat} (e : i = j) (hj : j < N.ps.length) (a : Option Addr) (c : Nat) : PS (k + 1) N' { M with a := a, n := M.n - 1, c := c } (qs.eraseIdx j) E := by
  rcases hN with ⟨l, e1, hl, rfl⟩ | ⟨g, _⟩
  · have : l = j := by omega
    subst this
    exact h.drop hl a c
  · rw [e, hasB_yes hj] at g; cases g
theorem PS.dropNo (h : PS k N M qs E) {i : Int} {N' : NetV} (hN : DropN N i N') (g : hasB N i = false) : PS (k + 1) N' M qs E := by
  rcases hN with ⟨l, e1, hl, rfl⟩ | ⟨_, rfl⟩
  · rw [e1, hasB_yes hl] at g; cases g
  · exact h.more

theorem rs_lose {i : Int} (st : St W w (OwnS 4 M.a M.n M.c (pcells qs) :: sepL (E.map PV.bytes) :: R)) (h : PS k N M qs E) (hk : k ≤ 4000)
    (K : ∀ w' M' qs' E', St W w' (OwnS 4 M'.a M'.n M'.c (pcells qs') :: sepL (E'.map PV.bytes) :: R) → (∀ N', DropN N i N' → PS (k + 1) N' M' qs' E') → post (.returned (.tuple #[.agg (rnC M').toArray, .int .i64 (loseC N i)])) w') :
    Calls Try.prog 32 #[.agg (rnC M).toArray, .int .i64 i] w post := by
  unfold loseC at K
  by_cases hh : hasB N i = true
  · rw [if_pos hh] at K
    obtain ⟨j, rfl, hj⟩ := hasB_nat hh
    refine rlose_c (ps := qs) st OwnS.rds (by rw [h.ml]; exact hj) (by rw [h.ml]; exact (h.room hk).1) fun a' c' w' s => ?_
    exact K w' { M with a := a', n := M.n - 1, c := c' } (qs.eraseIdx j) E ((s.perm [1]).drop) fun N' hN => h.dropAll hN rfl hj a' c'
  · have hf : hasB N i = false := by simpa using hh
    rw [if_neg hh] at K
    exact rlose_no st (by rw [h.hasE]; exact hf) fun w' s => K w' M qs E s fun N' hN => h.dropNo hN hf

theorem ps_take {i : Int} (st : St W w (NetA b N :: R)) (h : PS k N M qs E) (hk : k ≤ 4000) {to code : Int} {bs : List Int} (ho : takeO N i = (to, bs, code))
    (K : ∀ w' N' B a n c, St W w' (NetA b N' :: B :: R) → DropN N i N' → (∀ R', Rds W (B :: R') 1 a n c (bvs bs)) → post (.returned (.tuple #[.int .i64 to, .slice a n c, .int .i64 code])) w') :
    Calls Try.prog 11 #[.pointer (some ⟨b, 0, none⟩), .int .i64 i] w post := by
  unfold takeO at ho
  by_cases hh : hasB N i = true
  · obtain ⟨j, rfl, hj⟩ := hasB_nat hh
    rw [at_yes hj] at ho
    dsimp only at ho
    refine take_c st hj h.cuts (h.room hk).1 fun w' s => ?_
    by_cases hc : cutB N N.ps[j].f N.ps[j].t = true
    · rw [if_pos hc] at ho ⊢
      simp only [Prod.mk.injEq] at ho
      obtain ⟨rfl, rfl, rfl⟩ := ho
      exact K w' _ _ none 0 0 s (.inl ⟨j, rfl, hj, rfl⟩) fun _ w _ => RdS.none0 w 1
    · rw [if_neg hc] at ho ⊢
      simp only [Prod.mk.injEq] at ho
      obtain ⟨rfl, rfl, rfl⟩ := ho
      exact K w' _ _ _ _ _ s (.inl ⟨j, rfl, hj, rfl⟩) fun _ => OwnS.rds
  · have hf : hasB N i = false := by simpa using hh
    rw [at_no hf] at ho
    simp only [Prod.mk.injEq] at ho
    obtain ⟨rfl, rfl, rfl⟩ := ho
    exact take_no st hf (K w N emp none 0 0 ((st.empD).perm [1]) (.inr ⟨hf, rfl⟩) fun _ w _ => RdS.none0 w 1)

theorem PS.cutE (h : PS k N M qs E) {x y : Nat} (hl : linkB N.nodes x y = true) : cutB N x y = M.cut x y := by
  unfold cutB
  rw [hl, Bool.true_and, Bool.eq_iff_iff, lookAt_keys]
  exact h.ct x y hl

theorem rs_take {i : Int} (st : St W w (OwnS 4 M.a M.n M.c (pcells qs) :: sepL (E.map PV.bytes) :: R)) (h : PS k N M qs E) (hk : k ≤ 4000) {to code : Int} {bs : List Int} (ho : takeO N i = (to, bs, code))
    (K : ∀ w' M' qs' E' a n c, St W w' (OwnS 4 M'.a M'.n M'.c (pcells qs') :: sepL (E'.map PV.bytes) :: R) → (∀ N', DropN N i N' → PS (k + 1) N' M' qs' E') → (∀ R', Rds W (sepL (E'.map PV.bytes) :: R') 1 a n c (bvs bs)) → post (.returned (.tuple #[.agg (rnC M').toArray, .int .i64 to, .slice a n c, .int .i64 code])) w') :
    Calls Try.prog 31 #[.agg (rnC M).toArray, .int .i64 i] w post := by
  unfold takeO at ho
  by_cases hh : hasB N i = true
  · obtain ⟨j, rfl, hj⟩ := hasB_nat hh
    rw [at_yes hj] at ho
    dsimp only at ho
    obtain ⟨hq, e1, e2, e3, e4, e5⟩ := h.at hj
    obtain ⟨hl, hn⟩ := h.ok _ (List.getElem_mem hj)
    obtain ⟨f, t, hf, ht, hf2, ht2⟩ := linkB_nat hl h.nodes.2
    have hce : cutB N N.ps[j].f N.ps[j].t = M.cut f t := by rw [hf, ht]; exact h.cutE (by rw [← hf, ← ht]; exact hl)
    refine rtake_c (ps := qs) (f := f) (t := t) st OwnS.rds (by rw [h.ml]; exact hj) (by rw [h.ml]; exact (h.room hk).1) hq rfl (by rw [e1, hf]) (by rw [e2, ht]) hf2 ht2 (cb := M.cut f t) rfl fun a' c' w' s => ?_
    have s1 := (s.perm [1]).drop
    rw [hce] at ho
    by_cases hc : M.cut f t = true
    · rw [if_pos hc] at ho ⊢
      simp only [Prod.mk.injEq] at ho
      obtain ⟨rfl, rfl, rfl⟩ := ho
      exact K w' { M with a := a', n := M.n - 1, c := c' } (qs.eraseIdx j) E none 0 0 s1 (fun N' hN => h.dropAll hN rfl hj a' c') fun _ w _ => RdS.none0 w 1
    · rw [if_neg hc] at ho ⊢
      simp only [Prod.mk.injEq] at ho
      obtain ⟨rfl, rfl, rfl⟩ := ho
      rw [ht] at K
      refine K w' { M with a := a', n := M.n - 1, c := c' } (qs.eraseIdx j) E _ _ _ s1 (fun N' hN => h.dropAll hN rfl hj a' c') fun R' w s => ?_
      have := (h.held _ (List.getElem_mem hq)).rd s
      rwa [e4] at this
  · have hf : hasB N i = false := by simpa using hh
    rw [at_no hf] at ho
    simp only [Prod.mk.injEq] at ho
    obtain ⟨rfl, rfl, rfl⟩ := ho
    exact rtake_no st (by rw [h.hasE]; exact hf) fun w' s => K w' M qs E none 0 0 s (fun N' hN => h.dropNo hN hf) fun _ w _ => RdS.none0 w 1

theorem ps_copy {i : Int} (st : St W w (NetA b N :: R)) (h : PS k N M qs E) (hk : k ≤ 4000)
    (K : ∀ w' N', St W w' (NetA b N' :: R) → CopyN N i N' → post (.returned (.int .i64 (copyC N i))) w') : Calls Try.prog 9 #[.pointer (some ⟨b, 0, none⟩), .int .i64 i] w post := by
  unfold copyC at K
  by_cases hh : hasB N i = true
  · rw [if_pos hh] at K
    obtain ⟨j, rfl, hj⟩ := hasB_nat hh
    exact copy_c st hj (fun p hp => by have := (h.ok p hp).2; omega) h.rm.2 (h.room hk).2 fun w' a' c' s => K w' _ s (.inl ⟨j, a', c', hj, rfl, rfl⟩)
  · have hf : hasB N i = false := by simpa using hh
    rw [if_neg hh] at K
    exact copy_no st hf (K w N st (.inr ⟨hf, rfl⟩))

theorem rs_copy {i : Int} (st : St W w (OwnS 4 M.a M.n M.c (pcells qs) :: sepL (E.map PV.bytes) :: R)) (h : PS k N M qs E) (hk : k ≤ 4000)
    (K : ∀ w' M' qs' E', St W w' (OwnS 4 M'.a M'.n M'.c (pcells qs') :: sepL (E'.map PV.bytes) :: R) → (∀ N', CopyN N i N' → PS (k + 1) N' M' qs' E') → post (.returned (.tuple #[.agg (rnC M').toArray, .int .i64 (copyC N i)])) w') :
    Calls Try.prog 33 #[.agg (rnC M).toArray, .int .i64 i] w post := by
  unfold copyC at K
  by_cases hh : hasB N i = true
  · rw [if_pos hh] at K
    obtain ⟨j, rfl, hj⟩ := hasB_nat hh
    obtain ⟨hq, e1, e2, e3, e4, e5⟩ := h.at hj
    obtain ⟨hl, hn⟩ := h.ok _ (List.getElem_mem hj)
    by_cases hr : (N.ps.length : Int) < N.room
    · rw [if_pos hr] at K
      refine rcopy_c (ps := qs) st OwnS.rds (by rw [h.ml]; exact hj) hq (by rw [h.ml, h.mr]; exact hr) (by rw [h.mr]; exact h.rm.2) fun a' c' w' s => ?_
      refine K w' { M with a := a', n := M.n + 1, c := c' } (qs ++ [qs[j]]) E ((s.perm [1]).drop) fun N' hN => ?_
      rcases hN with ⟨l, a, c, hl', el, rfl⟩ | ⟨g, _⟩
      · have : l = j := by omega
        subst this
        exact h.put (p := { N.ps[l] with a := a, c := c }) hr (by simp [PV.core, e1, e2, e3, e4, e5]) ⟨hl, hn⟩ (fun _ hz => hz) (h.held _ (List.getElem_mem hq)) a' c'
      · rw [hasB_yes hj] at g; cases g
    · rw [if_neg hr] at K
      refine rcopy_full (ps := qs) st OwnS.rds (by rw [h.ml]; exact hj) hq (by rw [h.ml, h.mr]; exact hr) (by rw [h.md]; exact (h.room hk).2) fun w' s => ?_
      refine K w' { M with dropped := M.dropped + 1 } qs E s fun N' hN => ?_
      rcases hN with ⟨l, a, c, hl', el, rfl⟩ | ⟨g, _⟩
      · exact h.full hr
      · rw [hasB_yes hj] at g; cases g
  · have hf : hasB N i = false := by simpa using hh
    rw [if_neg hh] at K
    refine rcopy_no st (by rw [h.hasE]; exact hf) fun w' s => K w' M qs E s fun N' hN => ?_
    rcases hN with ⟨l, a, c, hl', el, rfl⟩ | ⟨_, rfl⟩
    · rw [el, hasB_yes hl'] at hf; cases hf
    · exact h.more

theorem ps_turn {i at_ z : Int} (st : St W w (NetA b N :: R))
    (K : ∀ w' N', St W w' (NetA b N' :: R) → TurnN N i at_ z N' → post (.returned (.int .i64 (turnC N i at_ z))) w') : Calls Try.prog 22 #[.pointer (some ⟨b, 0, none⟩), .int .i64 i, .int .i64 at_, .int .u8 z] w post := by
  by_cases hh : hasB N i = true
  · obtain ⟨j, rfl, hj⟩ := hasB_nat hh
    have e : turnC N j at_ z = turnE N.ps[j] at_ z := by unfold turnC; rw [at_yes hj]
    by_cases he : turnE N.ps[j] at_ z = 0
    · obtain ⟨hsp, ⟨m, rfl, hm⟩, hz⟩ := turnE_zero he
      rw [e, he] at K
      exact turn_c st hj hsp hm hz fun w' s => K w' _ s (.inl ⟨j, m, hj, rfl, rfl, he, rfl⟩)
    · refine turn_same st hj he ?_
      rw [← e]
      exact K w N st (.inr ⟨by rw [e]; exact he, rfl⟩)
  · have hf : hasB N i = false := by simpa using hh
    have e : turnC N i at_ z = 3 := by unfold turnC; rw [at_no hf]
    refine turn_no st hf ?_
    have := K w N st (.inr ⟨by rw [e]; decide, rfl⟩)
    rwa [e] at this

theorem turnE_core {p q : PV} {a z : Int} (h1 : q.n = p.n) (h2 : q.sp = p.sp) : turnE q a z = turnE p a z := by unfold turnE; rw [h1, h2]

theorem rs_turn {i at_ z : Int} (st : St W w (OwnS 4 M.a M.n M.c (pcells qs) :: sepL (E.map PV.bytes) :: R)) (h : PS k N M qs E) (hk : k ≤ 4000)
    (K : ∀ w' M' qs' E', St W w' (OwnS 4 M'.a M'.n M'.c (pcells qs') :: sepL (E'.map PV.bytes) :: R) → (∀ N', TurnN N i at_ z N' → PS (k + 1) N' M' qs' E') → post (.returned (.tuple #[.agg (rnC M').toArray, .int .i64 (turnC N i at_ z)])) w') :
    Calls Try.prog 34 #[.agg (rnC M).toArray, .int .i64 i, .int .i64 at_, .int .u8 z] w post := by
  by_cases hh : hasB N i = true
  · obtain ⟨j, rfl, hj⟩ := hasB_nat hh
    obtain ⟨hq, e1, e2, e3, e4, e5⟩ := h.at hj
    have e : turnC N j at_ z = turnE N.ps[j] at_ z := by unfold turnC; rw [at_yes hj]
    by_cases he : turnE N.ps[j] at_ z = 0
    · obtain ⟨hsp, ⟨m, rfl, hm⟩, hz⟩ := turnE_zero he
      rw [e, he] at K
      have hn := (h.ok _ (List.getElem_mem hj)).2
      refine rturn_c (ps := qs) (p := qs[j]) st OwnS.rds (by rw [h.ml]; exact hj) (by rw [h.ml]; exact (h.room hk).1) hq rfl (fun w s => (h.held _ (List.getElem_mem hq)).rd s.drop) (by rw [e3]; omega) (by rw [e5]; exact hsp) (by rw [e3]; exact hm) hz fun a' c' ab cb w' s => ?_
      obtain ⟨q', hq'⟩ : ∃ q' : PV, ⟨qs[j].f, qs[j].t, ab, qs[j].n, cb, qs[j].bs.set m (xorB (qs[j].bs.getD m 0) z), true⟩ = q' := ⟨_, rfl⟩
      have hby : PV.bytes q' = OwnS 1 ab qs[j].n cb (bvs (qs[j].bs.set m (xorB (qs[j].bs.getD m 0) z))) := by rw [← hq']; rfl
      rw [hq', ← hby] at s
      refine K w' { M with a := a', c := c' } (qs.set j q') (E ++ [q']) ?_ fun N' hN => ?_
      · have s1 := bytes_snoc (p := q') (s.perm [3, 1])
        exact ((s1.perm [2]).drop).perm [1]
      · rcases hN with ⟨l, m', hl', el, em, _, rfl⟩ | ⟨g, _⟩
        · have : l = j := by omega
          subst this
          have : m' = m := by omega
          subst this
          refine h.turn hl' (p := N.ps[l].turned m' (xorB (N.ps[l].bs.getD m' 0) z)) (by rw [← hq']; simp [PV.core, PV.turned, e1, e2, e3, e4]) ⟨rfl, rfl, rfl⟩ (fun _ hz => hz.more q') ⟨q', by simp, rfl, rfl, rfl, rfl⟩ a' c'
        · rw [e, he] at g; exact absurd rfl g
    · refine rturn_same (ps := qs) (p := qs[j]) st OwnS.rds (by rw [h.ml]; exact hj) hq rfl (by rw [turnE_core e3 e5]; exact he) fun w' s => ?_
      rw [turnE_core e3 e5, ← e]
      refine K w' M qs E s fun N' hN => ?_
      rcases hN with ⟨l, m', hl', el, em, g, _⟩ | ⟨_, rfl⟩
      · have : l = j := by omega
        subst this
        exact absurd g he
      · exact h.more
  · have hf : hasB N i = false := by simpa using hh
    have e : turnC N i at_ z = 3 := by unfold turnC; rw [at_no hf]
    rw [e] at K
    refine rturn_no st (by rw [h.hasE]; exact hf) fun w' s => K w' M qs E s fun N' hN => ?_
    rcases hN with ⟨l, m', hl', el, em, g, _⟩ | ⟨_, rfl⟩
    · rw [el, hasB_yes hl'] at hf; cases hf
    · exact h.more

theorem ps_cut {x y : Int} {v : Bool} (st : St W w (NetA b N :: R))
    (K : ∀ w' N', St W w' (NetA b N' :: R) → N' = (if linkB N.nodes x y then cutN N x y v else N) → post (.returned (.int .i64 (cutC' N x y))) w') : Calls Try.prog 23 #[.pointer (some ⟨b, 0, none⟩), .int .i64 x, .int .i64 y, .bool v] w post :=
  cut_c st fun w' s => K w' _ s rfl

theorem rs_cut {x y : Int} {v : Bool} (st : St W w (OwnS 4 M.a M.n M.c (pcells qs) :: sepL (E.map PV.bytes) :: R)) (h : PS k N M qs E)
    (K : ∀ w' M' qs' E', St W w' (OwnS 4 M'.a M'.n M'.c (pcells qs') :: sepL (E'.map PV.bytes) :: R) → (∀ N', N' = (if linkB N.nodes x y then cutN N x y v else N) → PS (k + 1) N' M' qs' E') → post (.returned (.tuple #[.agg (rnC M').toArray, .int .i64 (cutC' N x y)])) w') :
    Calls Try.prog 35 #[.agg (rnC M).toArray, .int .i64 x, .int .i64 y, .bool v] w post := by
  unfold cutC' at K
  by_cases hl : linkB N.nodes x y = true
  · simp only [if_pos hl] at K
    obtain ⟨f, t, rfl, rfl, hf, ht⟩ := linkB_nat hl h.nodes.2
    refine rcut_c st (by rw [h.mn]; exact hl) hf ht fun w' s => K w' { M with cut := updC (updC M.cut f t v) t f v } qs E s fun N' hN => ?_
    subst hN
    exact h.cutt hl v
  · simp only [if_neg hl] at K
    refine rcut_no st (by rw [h.mn]; simpa using hl) fun w' s => K w' M qs E s fun N' hN => ?_
    subst hN
    exact h.more

/-- Whether a link is cut: as both tell it. -/
theorem ps_isCut {x y : Int} (st : St W w (NetA b N :: R)) (h : PS k N M qs E)
    (K : ∀ w', St W w' (NetA b N :: R) → post (.returned (.bool (cutB N x y))) w') : Calls Try.prog 17 #[.pointer (some ⟨b, 0, none⟩), .int .i64 x, .int .i64 y] w post :=
  isCut_c st h.cuts K

theorem rs_isCut {x y : Int} (st : St W w R) (h : PS k N M qs E)
    (K : ∀ w', St W w' R → post (.returned (.bool (cutB N x y))) w') : Calls Try.prog 18 #[.agg (rnC M).toArray, .int .i64 x, .int .i64 y] w post := by
  by_cases hl : linkB N.nodes x y = true
  · obtain ⟨f, t, rfl, rfl, hf, ht⟩ := linkB_nat hl h.nodes.2
    rw [h.cutE hl] at K
    exact riscut_c st (by rw [h.mn]; exact hl) hf ht K
  · have hf : linkB N.nodes x y = false := by simpa using hl
    have e : cutB N x y = false := by unfold cutB; rw [hf]; rfl
    rw [e] at K
    exact riscut_no st (by rw [h.mn]; exact hf) K

end

end Go.Proofs.Ytnibgchgcggfbab
