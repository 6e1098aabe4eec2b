/- Logs: several texts, joined. The replica in plain Lean: sums of tables, hashes of entries of other ages, bytes of what is set down. -/
import Derived.Test.YtggbeedghblakaaGreatDoorRepU
import Derived.Test.YtggbeedghblakaaGreatDoorRecL
namespace Go.Qd
section
variable {α : Type} {f : α → Nat}
theorem sum_set {l : List α} {i : Nat} {x y : α} (h : l[i]? = some y) : ((l.set i x).map f).sum + f y = (l.map f).sum + f x := by
  induction l generalizing i with
  | nil => simp at h
  | cons a l ih =>
    cases i with
    | zero => simp at h; subst h; simp; omega
    | succ i => have := ih (i := i) (by simpa using h); simp only [List.set_cons_succ, List.map_cons, List.sum_cons]; omega
theorem sum_app (a b : List α) : ((a ++ b).map f).sum = (a.map f).sum + (b.map f).sum := by simp
end
section
variable {κ β : Type} {lt : κ → κ → Bool} {g : β → κ} {l : List β} {x : β} {f : β → Nat} [DecidableEq κ]
theorem sum_put_old (O : Ordr lt) (h : SrtK lt g l) {y : β} (hy : getK g l (g x) = some y) : ((putK lt g l x).map f).sum + f y = (l.map f).sum + f x := by
  have hk : hasK g l (g x) = true := by rw [← getK_has, hy]; rfl
  obtain ⟨z, h1, h2, h3, h4⟩ := rankK_has O h hk
  rw [hy] at h3; cases h3
  rw [← putK_old O h x hk]
  exact sum_set h1
theorem sum_put_new (O : Ordr lt) (h : SrtK lt g l) (hk : hasK g l (g x) = false) : ((putK lt g l x).map f).sum = (l.map f).sum + f x := by
  rw [← putK_new O h x hk]
  have : (l.map f).sum = ((l.take (rankK lt g l (g x)) ++ l.drop (rankK lt g l (g x))).map f).sum := by rw [List.take_append_drop]
  rw [this, sum_app, sum_app, sum_app]
  simp; omega
theorem sum_del (O : Ordr lt) (h : SrtK lt g l) {k : κ} {y : β} (hy : getK g l k = some y) : ((delK g l k).map f).sum + f y = (l.map f).sum := by
  have hk : hasK g l k = true := by rw [← getK_has, hy]; rfl
  obtain ⟨z, h1, h2, h3, h4⟩ := rankK_has O h hk
  rw [hy] at h3; cases h3
  rw [← delK_eq O h hk]
  have e : l = l.take (rankK lt g l k) ++ (y :: l.drop (rankK lt g l k + 1)) := by
    have : y = l[rankK lt g l k] := by rw [List.getElem?_eq_getElem h4] at h1; exact (Option.some.inj h1).symm
    rw [this, ← List.drop_eq_getElem_cons, List.take_append_drop]
  have e2 : (l.map f).sum = ((l.take (rankK lt g l k) ++ (y :: l.drop (rankK lt g l k + 1))).map f).sum := by rw [← e]
  rw [e2, sum_app, sum_app]
  simp; omega
end

/-- Texts, each once, that are among some: no more than these. -/
theorem nodup_sub {α : Type} [DecidableEq α] : ∀ {a b : List α}, a.Nodup → (∀ x ∈ a, x ∈ b) → a.length ≤ b.length
  | [], _, _, _ => Nat.zero_le _
  | x :: a, b, h, s => by
    obtain ⟨h1, h2⟩ := List.nodup_cons.1 h
    have hx := s x (by simp)
    have := nodup_sub (a := a) (b := b.erase x) h2 (fun y hy => (List.mem_erase_of_ne (fun e => h1 (by rw [← e]; exact hy))).2 (s y (by simp [hy])))
    rw [List.length_erase_of_mem hx] at this
    have := List.length_pos_of_mem hx
    simp; omega
end Go.Qd

namespace Go.Proofs.YtggbeedghblakaaGreatDoor
open Go.RowKit Go.Qd RepV

def sumN (l : List KE) : Nat := (l.map fun p => hashE p.2).sum
def sumT (l : List KE) : Nat := sumN l % 18446744073709551616

theorem tget_some {l : List KE} {k : ByteArray} (h : thas l k = true) : getK Prod.fst l k = some (k, tget l k) := by
  unfold thas at h
  rw [← getK_has] at h
  cases e : getK Prod.fst l k with
  | none => rw [e] at h; cases h
  | some p =>
    obtain ⟨_, h2⟩ := getK_some e
    unfold tget; rw [e]
    show some p = some (k, p.2)
    rw [← h2]

theorem sumT_put {l : List KE} (hs : TSrt l) (k : ByteArray) (e : EnV) :
    sumT (tput l k e) = ((if thas l k = true then (sumT l + (18446744073709551616 - hashE (tget l k))) % 18446744073709551616 else sumT l) + hashE e) % 18446744073709551616 := by
  have hl := hash_lt (tget l k)
  unfold sumT
  cases h : thas l k with
  | true =>
    rw [if_pos rfl]
    have : sumN (tput l k e) + hashE (tget l k) = sumN l + hashE e := sum_put_old (x := (k, e)) kLt_ord hs (y := (k, tget l k)) (tget_some h)
    omega
  | false =>
    rw [if_neg (by decide)]
    have : sumN (tput l k e) = sumN l + hashE e := sum_put_new (x := (k, e)) kLt_ord hs h
    omega
theorem sumT_del {l : List KE} (hs : TSrt l) {k : ByteArray} (h : thas l k = true) : sumT (tdel l k) = (sumT l + (18446744073709551616 - hashE (tget l k))) % 18446744073709551616 := by
  have hl := hash_lt (tget l k)
  unfold sumT
  have : sumN (tdel l k) + hashE (tget l k) = sumN l := sum_del (k := k) kLt_ord hs (y := (k, tget l k)) (tget_some h)
  omega

/-- An entry's hash leaves out its age. -/
theorem hash_age {e : EnV} {n : Int} (h : checkE e = 0) (h' : checkE { e with age := n } = 0) : hashE { e with age := n } = hashE e := by
  unfold hashE
  rw [if_pos h, if_pos h']
  have hl : ∀ m : Int, encE { e with age := m } = (txtB e.key ++ flagB e.dead ++ txtB e.val ++ leB e.sc.toNat 4 ++ leB e.ss.toNat 1 ++ leB e.ac.toNat 4 ++ leB e.az.toNat 1) ++ (leB e.kp.toNat 2 ++ leB m.toNat 4) := fun m => by
    unfold encE; simp only [List.append_assoc]
  have ht : ∀ m : Int, (encE { e with age := m }).take ((encE { e with age := m }).length - 6) = txtB e.key ++ flagB e.dead ++ txtB e.val ++ leB e.sc.toNat 4 ++ leB e.ss.toNat 1 ++ leB e.ac.toNat 4 ++ leB e.az.toNat 1 := fun m => by
    rw [hl m, List.length_append, show (leB e.kp.toNat 2 ++ leB m.toNat 4).length = 6 from by rw [List.length_append, leB_len, leB_len], Nat.add_sub_cancel]
    exact List.take_left
  have h1 := ht n
  have h2 := ht e.age
  rw [h1]
  show _ = List.foldl fnvS _ ((encE { e with age := e.age }).take ((encE { e with age := e.age }).length - 6))
  rw [h2]

/-! What is set down. -/
def recsB (es : List EnV) : List UInt8 := (es.map fun e => recB (encE e)).flatten
theorem recsB_snoc (es : List EnV) (e : EnV) : recsB (es ++ [e]) = recsB es ++ recB (encE e) := by simp [recsB]
/-- A disk with power and no fuse, that has these records. -/
structure LogD (d : DskV) (es : List EnV) : Prop where
  on : d.off = false
  left : d.left = -1
  b : d.b = recsB es
theorem LogD.new : LogD DskV.new [] := ⟨rfl, rfl, rfl⟩
theorem LogD.add {d : DskV} {es : List EnV} (h : LogD d es) (e : EnV) : (d.addW (encE e) = 0 → LogD (d.add (encE e)) (es ++ [e])) ∧ (d.addW (encE e) ≠ 0 → d.add (encE e) = d) := by
  have hc : d.code 0 = 0 := by unfold DskV.code; rw [h.on, h.left]; simp
  have hu : d.used = d := by unfold DskV.used; rw [h.left]; simp
  obtain ⟨x, hx⟩ : ∃ x, encE e = x := ⟨_, rfl⟩
  rw [hx]
  unfold DskV.addW DskV.add
  by_cases h0 : x.length = 0
  · rw [if_pos h0, if_pos h0]; exact ⟨fun g => (by cases g), fun _ => rfl⟩
  rw [if_neg h0, if_neg h0]
  by_cases h5 : 512 < x.length
  · rw [if_pos h5, if_pos h5]; exact ⟨fun g => (by cases g), fun _ => rfl⟩
  rw [if_neg h5, if_neg h5]
  by_cases ha : d.appendW (recB x).length = 0
  · have e1 : d.append (recB x) = { d with b := d.b ++ recB x } := by unfold DskV.append; rw [ha, hc, if_pos rfl, hu]
    have hc2 : (d.append (recB x)).code 0 = 0 := by rw [e1]; unfold DskV.code; rw [h.on, h.left]; simp
    have hu2 : (d.append (recB x)).used = d.append (recB x) := by rw [e1]; unfold DskV.used; rw [h.left]; simp
    rw [ha, hc, if_neg (by simp), if_neg (by simp), hc2]
    refine ⟨fun _ => ?_, fun g => absurd rfl g⟩
    unfold DskV.sync
    rw [if_pos hc2, hu2, e1]
    exact ⟨h.on, h.left, by show d.b ++ recB x = _; rw [h.b, recsB_snoc, hx]⟩
  · have hcw : d.code (d.appendW (recB x).length) ≠ 0 := by unfold DskV.code; rw [h.on]; simp [ha]
    rw [if_pos hcw, if_pos hcw]
    refine ⟨fun g => absurd g hcw, fun _ => ?_⟩
    unfold DskV.append
    rw [if_neg hcw, if_pos (.inr ha)]
end Go.Proofs.YtggbeedghblakaaGreatDoor

/- The replica in plain Lean: what holds of all that a replica has (Core), whatever is done. -/
namespace Go.Proofs.YtggbeedghblakaaGreatDoor
open Go.RowKit Go.Qd RepV

theorem bury_mem {site t2 : Int} {gr : List KE} {e : EnV} (hs : TSrt gr) : ∀ p ∈ buryT site t2 gr e, p ∈ gr ∨ (p.1 = e.key ∧ p.2.sc = e.sc ∧ p.2.ss = e.ss ∧ (p.2.ac = e.ac ∨ ∃ q ∈ gr, p.2.ac = q.2.ac)) := by
  have put : ∀ x : EnV, (x.sc = e.sc ∧ x.ss = e.ss ∧ (x.ac = e.ac ∨ ∃ q ∈ gr, x.ac = q.2.ac)) → ∀ p ∈ tput gr e.key x, p ∈ gr ∨ (p.1 = e.key ∧ p.2.sc = e.sc ∧ p.2.ss = e.ss ∧ (p.2.ac = e.ac ∨ ∃ q ∈ gr, p.2.ac = q.2.ac)) := fun x hx p hp => by
    rcases (mem_putK kLt_ord).1 hp with rfl | ⟨hp, _⟩
    · exact .inr ⟨rfl, hx⟩
    · exact .inl hp
  unfold buryT
  split
  · exact fun p hp => .inl hp
  · split
    · rename_i hh
      obtain ⟨p0, hp0, _, hpg⟩ := thas_mem hh hs
      split
      · exact fun p hp => .inl hp
      · split
        · rename_i hz
          obtain ⟨z1, z2⟩ := cmpS_zero.1 hz
          refine put _ ⟨z1, z2, ?_⟩
          unfold bothE; dsimp only
          split
          · exact .inl rfl
          · exact .inr ⟨p0, hp0, by rw [hpg]⟩
        · exact put _ ⟨rfl, rfl, .inl rfl⟩
    · split
      · exact put _ ⟨rfl, rfl, .inl rfl⟩
      · exact fun p hp => .inl hp

/-- What holds of all that a replica has. -/
structure Core (r : RepV) : Prop where
  ok : RepOK r
  g : GInv r
  gr : GrInv r
  grC : ∀ p ∈ r.gr, p.2.ac ≤ r.cnt
  old : ∀ p ∈ r.gr, ∀ q ∈ r.tab, p.1 = q.1 → ¬ 0 < cmpS p.2.sc p.2.ss q.2.sc q.2.ss
  ixM : ∀ p ∈ r.tab, ixGet r.ix p.1 = some p.2.mark
  sum : r.sum = sumT r.tab

namespace Core
variable {r q : RepV} {e : EnV}
theorem same (h : Core r) (ok : RepOK q) (h1 : q.tab = r.tab) (h2 : q.gr = r.gr) (h3 : r.cnt ≤ q.cnt) (h4 : q.t1 = r.t1) (h5 : q.ix = r.ix) (h6 : q.sum = r.sum) : Core q :=
  ⟨ok, h.g.same h1 h3 h4, h.gr.same h2, fun p hp => by rw [h2] at hp; exact Int.le_trans (h.grC p hp) h3, fun p hp x hx => by rw [h2] at hp; rw [h1] at hx; exact h.old p hp x hx, fun p hp => by rw [h1] at hp; rw [h5]; exact h.ixM p hp, by rw [h6, h1]; exact h.sum⟩
theorem withD {d : DskV} (h : Core r) (hd : DskOK d) : Core { r with d := d } := h.same (h.ok.withD hd) rfl rfl (Int.le_refl _) rfl rfl rfl
theorem withC {c : Int} (h : Core r) (hc : r.cnt ≤ c) : Core { r with cnt := c } := h.same (h.ok.withC (by have := h.ok.cnt; omega)) rfl rfl hc rfl rfl rfl
theorem wrote (h : Core r) (e : EnV) : Core (r.wrote e) := by
  obtain ⟨a1, a2, a3, a4, a5, a6, a7, a8, a9, a10, a11, a12⟩ := wrote_same r e
  exact h.same (h.ok.wrote e) a1 a4 (Int.le_of_eq a2.symm) a3 a12 a11
theorem see (h : Core r) (c s : Int) : Core (r.see c s) := by
  unfold RepV.see
  split
  · rename_i hc
    simp only [Bool.and_eq_true, decide_eq_true_eq] at hc
    exact h.withC (Int.le_of_lt hc.2)
  · exact h
/-- A certificate of a key that has something that isn't earlier. -/
theorem buried (h : Core r) (he : e.ac ≤ r.cnt) (ho : ∀ x ∈ r.tab, x.1 = e.key → ¬ 0 < cmpS e.sc e.ss x.2.sc x.2.ss) : Core (r.buried e) := by
  have hm := bury_mem (site := r.site) (t2 := r.t2) (e := e) h.ok.gr
  refine ⟨h.ok.buried e, h.g.same rfl (Int.le_refl _) rfl, bury_inv h.ok.gr h.gr, fun p hp => ?_, fun p hp x hx hk => ?_, h.ixM, h.sum⟩
  · show p.2.ac ≤ r.cnt
    rcases hm p hp with g | ⟨_, _, _, g | ⟨y, hy, g⟩⟩
    · exact h.grC p g
    · rw [g]; exact he
    · rw [g]; exact h.grC y hy
  · rcases hm p hp with g | ⟨g1, g2, g3, _⟩
    · exact h.old p g x hx hk
    · rw [g2, g3]; exact ho x hx (by rw [← hk, g1])
/-- An entry comes to the table, that is no earlier than its key's grave. -/
theorem placed (h : Core r) (hc : checkE e = 0) (he : e.ac ≤ r.cnt) (ha : e.dead = true → 0 < r.t1 → e.age < r.t1) (hr : r.roomB e.key = true) (hg : ∀ p ∈ r.gr, p.1 = e.key → ¬ 0 < cmpS p.2.sc p.2.ss e.sc e.ss) :
    Core ((r.buried e).placed e) := by
  have hm := bury_mem (site := r.site) (t2 := r.t2) (e := e) h.ok.gr
  have ht : ∀ x, x ∈ tput r.tab e.key e ↔ x = (e.key, e) ∨ (x ∈ r.tab ∧ x.1 ≠ e.key) := fun x => mem_putK kLt_ord
  refine ⟨(h.ok.buried e).placed hr, h.g.put (e := e) rfl (Int.le_refl _) rfl ⟨hc, he, ha⟩, bury_inv h.ok.gr h.gr, fun p hp => ?_, fun p hp x hx hk => ?_, fun p hp => ?_, ?_⟩
  · show p.2.ac ≤ r.cnt
    rcases hm p hp with g | ⟨_, _, _, g | ⟨y, hy, g⟩⟩
    · exact h.grC p g
    · rw [g]; exact he
    · rw [g]; exact h.grC y hy
  · rcases (ht x).1 hx with rfl | ⟨hx1, hx2⟩
    · rcases hm p hp with g | ⟨g1, g2, g3, _⟩
      · exact hg p g hk
      · rw [g2, g3]
        have : cmpS e.sc e.ss e.sc e.ss = 0 := cmpS_zero.2 ⟨rfl, rfl⟩
        show ¬ 0 < cmpS e.sc e.ss e.sc e.ss
        omega
    · rcases hm p hp with g | ⟨g1, g2, g3, _⟩
      · exact h.old p g x hx1 hk
      · exact absurd (hk.symm.trans g1) hx2
  · show ixGet (ixPut r.ix e.mark) p.1 = _
    rw [ixGet_put h.ok.ix]
    rcases (ht p).1 hp with rfl | ⟨hx1, hx2⟩
    · rw [if_pos (show e.key = e.mark.key from rfl)]
    · rw [if_neg (show ¬ p.1 = e.mark.key from hx2)]; exact h.ixM p hx1
  · show (((if thas r.tab e.key = true then (r.sum + (18446744073709551616 - hashE (tget r.tab e.key))) % 18446744073709551616 else r.sum) + hashE e) % 18446744073709551616) = sumT (tput r.tab e.key e)
    rw [sumT_put h.ok.tab, h.sum]
/-- An entry's age changes. -/
theorem aged {k : ByteArray} {n : Int} (h : Core r) (hh : thas r.tab k = true) (ok : RepOK { r with tab := tput r.tab k { tget r.tab k with age := n } }) (hg : GInv { r with tab := tput r.tab k { tget r.tab k with age := n } }) :
    Core { r with tab := tput r.tab k { tget r.tab k with age := n } } := by
  obtain ⟨p0, hp0, hpk, hpg⟩ := thas_mem hh h.ok.tab
  have ht : ∀ x, x ∈ tput r.tab k { tget r.tab k with age := n } ↔ x = (k, { tget r.tab k with age := n }) ∨ (x ∈ r.tab ∧ x.1 ≠ k) := fun x => mem_putK kLt_ord
  have hc1 := (h.g p0 hp0).1
  have hc2 := (hg _ ((ht _).2 (.inl rfl))).1
  refine ⟨ok, hg, h.gr, h.grC, fun p hp x hx hk => ?_, fun p hp => ?_, ?_⟩
  · rcases (ht x).1 hx with rfl | ⟨hx1, hx2⟩
    · rw [hpg]; exact h.old p hp p0 hp0 (hk.trans hpk.symm)
    · exact h.old p hp x hx1 hk
  · rcases (ht p).1 hp with rfl | ⟨hx1, hx2⟩
    · rw [hpg]
      have := h.ixM p0 hp0
      rw [hpk] at this
      exact this
    · exact h.ixM p hx1
  · show r.sum = sumT (tput r.tab k { tget r.tab k with age := n })
    rw [sumT_put h.ok.tab, if_pos hh]
    rw [hpg] at hc2 ⊢
    rw [hash_age hc1 hc2, h.sum]
    have hl := hash_lt p0.2
    unfold sumT
    omega
theorem stay (h : Core r) (e : EnV) (hh : thas r.tab e.key = true) (he : checkE e = 0) : Core (r.stay e) := by
  have h1 := h.ok.stay e hh
  have h2 := h.g.stay h.ok e hh he h.ok.t1.1
  unfold RepV.stay at h1 h2 ⊢
  split
  · rename_i hd
    rw [if_pos hd] at h1 h2
    exact h.aged hh h1 h2
  · exact h
theorem tick1 (h : Core r) {p : KE} (hp : p ∈ r.tab) (ht : 0 < r.t1) : Core (r.tick1 p) := by
  have hk := h.ok.key p hp
  have hh : thas r.tab p.2.key = true := hasK_iff.2 ⟨p, hp, hk⟩
  have ok := h.ok.tick1 hh
  have hg : tget r.tab p.2.key = p.2 := by rw [← hk]; exact tget_mem h.ok.tab hp
  obtain ⟨a, b, c⟩ := h.g p hp
  have ht1 := h.ok.t1.2
  unfold RepV.tick1 at ok ⊢
  split
  · exact h
  · rename_i hd
    rw [if_neg hd] at ok
    have hd2 : p.2.dead = true := by simpa using hd
    have hage := c hd2 ht
    have hages := checkE_ages a
    have hco : checkE p.2.older = 0 := checkE_age a (fun x => absurd x hd) (by omega)
    split
    · rename_i ha
      rw [if_pos ha] at ok
      have e1 : p.2.older = { tget r.tab p.2.key with age := p.2.age + 1 } := by rw [hg]; rfl
      rw [e1] at ok ⊢
      refine h.aged hh ok ?_
      rw [← e1]
      exact h.g.put (e := p.2.older) (q := { r with tab := tput r.tab p.2.key p.2.older }) rfl (Int.le_refl _) rfl ⟨hco, b, fun _ _ => ha⟩
    · rename_i ha
      rw [if_neg ha] at ok
      have hm : ∀ x, x ∈ tdel r.tab p.2.key ↔ x ∈ r.tab ∧ x.1 ≠ p.2.key := fun x => mem_delK
      refine ⟨ok, fun x hx => ?_, h.gr, h.grC, fun y hy x hx => h.old y hy x ((hm x).1 hx).1, fun x hx => ?_, ?_⟩
      · exact h.g x ((hm x).1 hx).1
      · show ixGet (ixDrop r.ix p.2.key) x.1 = _
        obtain ⟨x1, x2⟩ := (hm x).1 hx
        rw [ixGet_drop, if_neg x2]
        exact h.ixM x x1
      · show (r.sum + (18446744073709551616 - hashE p.2.older)) % 18446744073709551616 = sumT (tdel r.tab p.2.key)
        rw [sumT_del h.ok.tab hh, hg, h.sum]
        have : hashE p.2.older = hashE p.2 := hash_age a hco
        rw [this]
theorem ticks (h : Core r) (ht : 0 < r.t1) : Core r.ticks := by
  have key : ∀ i, i ≤ r.tab.length → Core ((r.tab.take i).foldl RepV.tick1 r) := by
    intro i
    induction i with
    | zero => intro _; exact h
    | succ i ih =>
      intro hi
      have hlt : i < r.tab.length := by omega
      obtain ⟨h1, h2, h3⟩ := tick_state h.ok i (by omega)
      have e : r.tab.take (i + 1) = r.tab.take i ++ [r.tab[i]] := List.take_succ_eq_append_getElem hlt
      rw [e, List.foldl_append, List.foldl_cons, List.foldl_nil]
      have ed : r.tab.drop i = r.tab[i] :: r.tab.drop (i + 1) := List.drop_eq_getElem_cons hlt
      refine (ih (by omega)).tick1 ?_ ?_
      · rw [h3, ed]; exact List.mem_append.2 (.inr (List.mem_cons.2 (.inl rfl)))
      · rw [h2]; exact ht
  have := key r.tab.length (Nat.le_refl _)
  rwa [List.take_length] at this
theorem tick (h : Core r) (h2 : r.t2 ≤ 2147483647) : Core r.tick := by
  have ok := h.ok.tick
  have gg := h.g.tick h.ok
  have gr := h.gr.tick h.ok h2
  unfold RepV.tick at ok gg gr ⊢
  split
  · exact h
  · rename_i h0
    rw [if_neg h0] at ok gg gr
    have ht : 0 < r.t1 := by have := h.ok.t1.1; omega
    have hk := h.ticks ht
    obtain ⟨_, hs, _⟩ := RepV.ticks_tab h.ok
    have hgm : ∀ p ∈ r.ticked.gr, ∃ x ∈ r.gr, p.1 = x.1 ∧ p.2.ac = x.2.ac ∧ p.2.sc = x.2.sc ∧ p.2.ss = x.2.ss := fun p hp => by
      have hp' : p ∈ r.gr.foldl (gtick1 r.t2) r.gr := hp
      rw [gticks h.ok.gr h.ok.grK, List.mem_filterMap] at hp'
      obtain ⟨x, hx, hl⟩ := hp'
      unfold gleft1 at hl
      split at hl
      · cases hl; exact ⟨x, hx, rfl, rfl, rfl, rfl⟩
      · cases hl
    have ec : r.ticked.cnt = r.cnt ∧ r.ticks.gr = r.gr := by
      unfold SameT at hs
      unfold RepV.ticked
      rw [hs]; exact ⟨rfl, rfl⟩
    refine ⟨ok, gg, gr, fun p hp => ?_, fun p hp x hx hkk => ?_, hk.ixM, hk.sum⟩
    · obtain ⟨x, hx, _, h4, _⟩ := hgm p hp
      rw [h4, ec.1]; exact h.grC x hx
    · obtain ⟨y, hy, h3, _, h5, h6⟩ := hgm p hp
      rw [h5, h6]
      exact hk.old y (by rw [ec.2]; exact hy) x hx (by rw [← h3]; exact hkk)
theorem fresh (h : RepOK r) (h1 : r.tab = []) (h2 : r.gr = []) (h3 : r.sum = 0) : Core r :=
  ⟨h, fun p hp => (by rw [h1] at hp; cases hp), fun p hp => (by rw [h2] at hp; cases hp), fun p hp => (by rw [h2] at hp; cases hp), fun p hp => (by rw [h2] at hp; cases hp), fun p hp => (by rw [h1] at hp; cases hp), by rw [h3, h1]; rfl⟩
end Core
end Go.Proofs.YtggbeedghblakaaGreatDoor

/- The replica in plain Lean: what it has, and what it set down (BInv), whatever is done; what is there again when it is opened anew. -/
namespace Go.Proofs.YtggbeedghblakaaGreatDoor
open Go.RowKit Go.Qd RepV

structure BInv (r : RepV) (es : List EnV) : Prop where
  c : Core r
  d : LogD r.d es
  e : ∀ e ∈ es, checkE e = 0 ∧ e.ac ≤ r.cnt ∧ (e.dead = true → 0 < r.t1 → e.age < r.t1)
  t : ∀ p ∈ r.tab, ∃ e ∈ es, e.key = p.1

theorem checkE_scac {e : EnV} (h : checkE e = 0) : e.sc ≤ e.ac := by
  have h1 := (checkE_ok h).2.2.2.2.2.1
  have h2 := @cmpS_lt e.ac e.az e.sc e.ss
  omega
theorem roomB_same {r q : RepV} (h1 : q.tab = r.tab) (h2 : q.nodes = r.nodes) (h3 : q.quota = r.quota) (k : ByteArray) : q.roomB k = r.roomB k := by
  unfold RepV.roomB RepV.room; rw [h1, h2, h3]

namespace BInv
variable {r q : RepV} {es : List EnV} {e : EnV}
theorem withC {c : Int} (h : BInv r es) (hc : r.cnt ≤ c) : BInv { r with cnt := c } es :=
  ⟨h.c.withC hc, h.d, fun e he => ⟨(h.e e he).1, Int.le_trans (h.e e he).2.1 hc, (h.e e he).2.2⟩, h.t⟩
theorem see (h : BInv r es) (c s : Int) : BInv (r.see c s) es := by
  unfold RepV.see
  split
  · rename_i hc
    simp only [Bool.and_eq_true, decide_eq_true_eq] at hc
    exact h.withC (Int.le_of_lt hc.2)
  · exact h
theorem set (h : BInv r es) (he : e.ac ≤ r.cnt) (ha : e.dead = true → 0 < r.t1 → e.age < r.t1) (hr : r.roomB e.key = true) (hg : ∀ p ∈ r.gr, p.1 = e.key → ¬ 0 < cmpS p.2.sc p.2.ss e.sc e.ss) :
    (r.setW e = 0 → checkE e = 0 ∧ BInv (r.set e) (es ++ [e])) ∧ (r.setW e ≠ 0 → BInv (r.set e) es) := by
  obtain ⟨l1, l2⟩ := h.d.add e
  unfold RepV.setW RepV.set
  by_cases hc : checkE e = 0
  · have nc : ¬ checkE e ≠ 0 := fun g => g hc
    simp only [if_neg nc]
    by_cases hw : r.d.addW (encE e) = 0
    · have nw : ¬ r.d.addW (encE e) ≠ 0 := fun g => g hw
      simp only [if_neg nw, if_pos hr]
      refine ⟨fun _ => ⟨hc, ?_⟩, fun g => absurd rfl g⟩
      have hd : DskOK (r.d.add (encE e)) := h.c.ok.d.add _
      have k1 := (h.c.withD hd).wrote e
      obtain ⟨a1, a2, a3, a4, a5, a6, a7, a8, a9, a10, a11, a12⟩ := wrote_same { r with d := r.d.add (encE e) } e
      have k2 := k1.placed hc (by rw [a2]; exact he) (by rw [a3]; exact ha) (by rw [roomB_same (r := r) a1 a9 a8]; exact hr) (by rw [a4]; exact hg)
      refine ⟨k2, ?_, fun x hx => ?_, fun p hp => ?_⟩
      · show LogD ({ r with d := r.d.add (encE e) }.wrote e).d _
        rw [a7]; exact l1 hw
      · show checkE x = 0 ∧ x.ac ≤ ({ r with d := r.d.add (encE e) }.wrote e).cnt ∧ (x.dead = true → 0 < ({ r with d := r.d.add (encE e) }.wrote e).t1 → x.age < ({ r with d := r.d.add (encE e) }.wrote e).t1)
        rw [a2, a3]
        rcases List.mem_append.1 hx with g | g
        · exact h.e x g
        · rw [List.mem_singleton] at g; subst g; exact ⟨hc, he, ha⟩
      · have hp' : p ∈ tput ({ r with d := r.d.add (encE e) }.wrote e).tab e.key e := hp
        rw [a1] at hp'
        rcases (mem_putK kLt_ord).1 hp' with rfl | ⟨hp1, _⟩
        · exact ⟨e, by simp, rfl⟩
        · obtain ⟨x, x1, x2⟩ := h.t p hp1; exact ⟨x, by simp [x1], x2⟩
    · have pw : r.d.addW (encE e) ≠ 0 := hw
      simp only [if_pos pw]
      refine ⟨fun g => absurd g hw, fun _ => ?_⟩
      rw [l2 hw]; exact h
  · have pc : checkE e ≠ 0 := hc
    simp only [if_pos pc]
    exact ⟨fun g => absurd g hc, fun _ => h⟩
theorem stay (h : BInv r es) (e : EnV) (hh : thas r.tab e.key = true) (he : checkE e = 0) : BInv (r.stay e) es := by
  have hc := h.c.stay e hh he
  unfold RepV.stay at hc ⊢
  split
  · rename_i hd
    rw [if_pos hd] at hc
    refine ⟨hc, h.d, h.e, fun p hp => ?_⟩
    rcases (mem_putK kLt_ord).1 hp with rfl | ⟨hp1, _⟩
    · obtain ⟨p0, hp0, hpk, _⟩ := thas_mem hh h.c.ok.tab
      obtain ⟨x, x1, x2⟩ := h.t p0 hp0
      exact ⟨x, x1, x2.trans hpk⟩
    · exact h.t p hp1
  · exact h
theorem tick (h : BInv r es) (h2 : r.t2 ≤ 2147483647) : BInv r.tick es := by
  have hc := h.c.tick h2
  have hsc := SameC.tick h.c.ok
  obtain ⟨e1, e2, _⟩ := RepV.ticks_tab h.c.ok
  unfold RepV.tick at hc hsc ⊢
  split
  · exact h
  · rename_i h0
    rw [if_neg h0] at hc hsc
    have ec : r.ticked.cnt = r.cnt ∧ r.ticked.d = r.d := by
      unfold SameT at e2
      unfold RepV.ticked
      rw [e2]; exact ⟨rfl, rfl⟩
    refine ⟨hc, by rw [ec.2]; exact h.d, fun x hx => ?_, fun p hp => ?_⟩
    · rw [ec.1, hsc.t1]; exact h.e x hx
    · have hp' : p ∈ r.ticks.tab := hp
      rw [e1, List.mem_filterMap] at hp'
      obtain ⟨y, hy, hl⟩ := hp'
      have : p.1 = y.1 := by
        unfold left1 at hl
        split at hl
        · cases hl; rfl
        · split at hl
          · cases hl; rfl
          · cases hl
      rw [this]; exact h.t y hy
theorem write (h : BInv r es) (k : ByteArray) (made : Int → Int → EnV) (hm : ∀ c s, (made c s).key = k ∧ (made c s).ac = c ∧ (made c s).sc = c ∧ (made c s).ss = s ∧ (made c s).az = s ∧ ((made c s).dead = true → (made c s).age = 0)) :
    (r.writeW k made = 0 → r.cnt < 4294967295 ∧ checkE (made (r.cnt + 1) r.site) = 0 ∧ BInv (r.write k made) (es ++ [made (r.cnt + 1) r.site]) ∧ (r.write k made).cnt = r.cnt + 1) ∧
    (r.writeW k made ≠ 0 → BInv (r.write k made) es) ∧ r.cnt ≤ (r.write k made).cnt := by
  obtain ⟨m1, m2, m3, m4, m5, m6⟩ := hm (r.cnt + 1) r.site
  unfold RepV.writeW RepV.write
  by_cases hf : r.fullB k = true
  · rw [if_pos hf, if_pos hf]; exact ⟨fun g => (by cases g), fun _ => h, Int.le_refl _⟩
  rw [if_neg hf, if_neg hf]
  by_cases hc : 4294967295 ≤ r.cnt
  · rw [if_pos hc, if_pos hc]; exact ⟨fun g => (by cases g), fun _ => h, Int.le_refl _⟩
  rw [if_neg hc, if_neg hc]
  have h' : BInv { r with cnt := r.cnt + 1 } es := h.withC (by omega)
  by_cases hx : checkE (made (r.cnt + 1) r.site) = 0
  · have nx : ¬ checkE (made (r.cnt + 1) r.site) ≠ 0 := fun g => g hx
    rw [if_neg nx, if_neg nx]
    have hr : r.roomB k = true := by
      unfold RepV.fullB at hf
      simp only [Bool.or_eq_true, Bool.not_eq_true', not_or, Bool.not_eq_false] at hf
      exact hf.2
    obtain ⟨s1, s2⟩ := h'.set (e := made (r.cnt + 1) r.site) (by rw [m2]; exact Int.le_refl _) (fun hd h0 => by rw [m6 hd]; exact h0) (by rw [m1]; exact hr) (fun p hp _ => by
      rw [m3, m4]
      have h1 := checkE_scac (h.c.gr p hp).1
      have h2 := h.c.grC p hp
      have h3 := @cmpS_gt p.2.sc p.2.ss (r.cnt + 1) r.site
      omega)
    have hcn := (set_same { r with cnt := r.cnt + 1 } (made (r.cnt + 1) r.site)).1
    exact ⟨fun g => ⟨by omega, hx, (s1 g).2, hcn⟩, s2, by rw [hcn]; show r.cnt ≤ r.cnt + 1; omega⟩
  · rw [if_pos hx, if_pos hx]
    exact ⟨fun g => absurd g hx, fun _ => h', by show r.cnt ≤ r.cnt + 1; omega⟩
theorem put (h : BInv r es) (k v : ByteArray) : (r.putW k v = 0 → r.cnt < 4294967295 ∧ BInv (r.put k v) (es ++ [r.putX k v]) ∧ (r.put k v).cnt = r.cnt + 1 ∧ r.putX k v = putE k v (r.cnt + 1) r.site) ∧ (r.putW k v ≠ 0 → BInv (r.put k v) es) ∧ r.cnt ≤ (r.put k v).cnt := by
  unfold RepV.putX
  obtain ⟨w1, w2, w3⟩ := h.write k (putE k v) (fun c s => ⟨rfl, rfl, rfl, rfl, rfl, fun g => by cases g⟩)
  by_cases hx : checkE (putE k v 1 0) = 0
  · have e1 : r.putW k v = r.writeW k (putE k v) := by unfold RepV.putW; rw [if_neg (by rw [hx]; simp)]
    have e2 : r.put k v = r.write k (putE k v) := by unfold RepV.put; rw [if_neg (by rw [hx]; simp)]
    rw [e1, e2]
    exact ⟨fun g => by rw [if_pos g]; exact ⟨(w1 g).1, (w1 g).2.2.1, (w1 g).2.2.2, rfl⟩, w2, w3⟩
  · have e1 : r.putW k v = checkE (putE k v 1 0) := by unfold RepV.putW; rw [if_pos hx]
    have e2 : r.put k v = r := by unfold RepV.put; rw [if_pos hx]
    rw [e1, e2]
    exact ⟨fun g => absurd g hx, fun _ => h, Int.le_refl _⟩
theorem del (h : BInv r es) (k : ByteArray) (kp : Int) : (r.delW k kp = 0 → r.cnt < 4294967295 ∧ BInv (r.del k kp) (es ++ [r.delX k kp]) ∧ (r.del k kp).cnt = r.cnt + 1 ∧ r.delX k kp = delE k kp (r.cnt + 1) r.site ∧ (∃ e ∈ es, e.key = k)) ∧ (r.delW k kp ≠ 0 → BInv (r.del k kp) es) ∧ r.cnt ≤ (r.del k kp).cnt := by
  unfold RepV.delX
  obtain ⟨w1, w2, w3⟩ := h.write k (delE k kp) (fun c s => ⟨rfl, rfl, rfl, rfl, rfl, fun _ => rfl⟩)
  by_cases hx : checkE (putE k ⟨#[]⟩ 1 0) = 0
  · by_cases hv : liveB r k = true
    · have e1 : r.delW k kp = r.writeW k (delE k kp) := by unfold RepV.delW; rw [if_neg (by rw [hx]; simp), if_pos hv]
      have e2 : r.del k kp = r.write k (delE k kp) := by unfold RepV.del; rw [if_neg (by rw [hx]; simp), if_pos hv]
      rw [e1, e2]
      have hk : ∃ e ∈ es, e.key = k := by
        unfold liveB at hv
        simp only [Bool.and_eq_true] at hv
        obtain ⟨p, hp, hpk, _⟩ := thas_mem hv.1 h.c.ok.tab
        obtain ⟨x, x1, x2⟩ := h.t p hp
        exact ⟨x, x1, x2.trans hpk⟩
      exact ⟨fun g => by rw [if_pos g]; exact ⟨(w1 g).1, (w1 g).2.2.1, (w1 g).2.2.2, rfl, hk⟩, w2, w3⟩
    · have e1 : r.delW k kp = 3 := by unfold RepV.delW; rw [if_neg (by rw [hx]; simp), if_neg hv]
      have e2 : r.del k kp = r := by unfold RepV.del; rw [if_neg (by rw [hx]; simp), if_neg hv]
      rw [e1, e2]
      exact ⟨fun g => (by cases g), fun _ => h, Int.le_refl _⟩
  · have e1 : r.delW k kp = checkE (putE k ⟨#[]⟩ 1 0) := by unfold RepV.delW; rw [if_pos hx]
    have e2 : r.del k kp = r := by unfold RepV.del; rw [if_pos hx]
    rw [e1, e2]
    exact ⟨fun g => absurd g hx, fun _ => h, Int.le_refl _⟩

/-- What a woken grave is. -/
def WokenOf (r : RepV) (e x : EnV) : Prop := r.overB e = true ∧ x = wakeE (tget r.gr e.key) x.ac r.site ∧ r.cnt < x.ac ∧ x.ac ≤ 4294967295 ∧ x.key = e.key ∧ x.az = r.site
theorem way_spec (r : RepV) (e : EnV) : (r.way e = 0 ∧ thas r.tab e.key = true ∧ newerB e (tget r.tab e.key) = false) ∨
    ((thas r.tab e.key = true → newerB e (tget r.tab e.key) = true) ∧ (r.way e = 1 ∨ ((e.dead = true → 0 < r.t1 → e.age < r.t1 - 1) ∧ (r.way e = 2 ∨ (r.roomB e.key = true ∧ ((r.way e = 3 ∧ r.overB e = true) ∨ (r.way e = 4 ∧ r.overB e = false))))))) := by
  unfold RepV.way
  by_cases h0 : (thas r.tab e.key && !newerB e (tget r.tab e.key)) = true
  · rw [if_pos h0]
    simp only [Bool.and_eq_true, Bool.not_eq_true'] at h0
    exact .inl ⟨rfl, h0⟩
  · rw [if_neg h0]
    simp only [Bool.and_eq_true, Bool.not_eq_true', not_and, Bool.not_eq_false] at h0
    refine .inr ⟨h0, ?_⟩
    by_cases h1 : (e.dead && (decide (0 < r.t1) && decide (r.t1 - 1 ≤ e.age))) = true
    · rw [if_pos h1]; exact .inl rfl
    · rw [if_neg h1]
      simp only [Bool.and_eq_true, decide_eq_true_eq, not_and] at h1
      refine .inr ⟨fun a b => by have := h1 a b; omega, ?_⟩
      cases h2 : r.roomB e.key with
      | false => rw [if_pos rfl]; exact .inl rfl
      | true =>
        rw [if_neg (by decide)]
        refine .inr ⟨rfl, ?_⟩
        cases h3 : r.overB e with
        | true => rw [if_pos rfl]; exact .inl ⟨rfl, rfl⟩
        | false => rw [if_neg (by decide)]; exact .inr ⟨rfl, rfl⟩
theorem see_le (r : RepV) (c s : Int) : r.cnt ≤ (r.see c s).cnt := by
  unfold RepV.see
  split
  · rename_i hc
    simp only [Bool.and_eq_true, decide_eq_true_eq] at hc
    exact Int.le_of_lt hc.2
  · exact Int.le_refl _
theorem see_ac {e : EnV} (hc : checkE e = 0) (r : RepV) : e.ac ≤ (r.see e.ac e.az).cnt := by
  have hg := (checkE_ok hc).2.2.2.2.1
  unfold RepV.see
  split
  · exact Int.le_refl _
  · rename_i hx
    simp only [Bool.and_eq_true, decide_eq_true_eq, not_and] at hx
    have := hx hg
    omega
theorem mergeIn (h : BInv r es) (e : EnV) (hc : checkE e = 0) (hac : e.ac ≤ r.cnt) :
    (r.mergeInK e = 0 → BInv (r.mergeIn e) es) ∧
    (r.mergeInK e = 1 → r.mergeInW e = 0 ∧ r.overB e = false ∧ BInv (r.mergeIn e) (es ++ [r.mergeInX e]) ∧ (r.mergeInX e).key = e.key) ∧
    (r.mergeInK e = 2 → r.mergeInW e = 0 ∧ WokenOf r e (r.mergeInX e) ∧ BInv (r.mergeIn e) (es ++ [r.mergeInX e]) ∧ (r.mergeIn e).cnt = (r.mergeInX e).ac) ∧ r.cnt ≤ (r.mergeIn e).cnt ∧ (r.mergeInK e = 0 ∨ r.mergeInK e = 1 ∨ r.mergeInK e = 2) := by
  rcases way_spec r e with ⟨hw, h1, h2⟩ | ⟨h0, hw | ⟨h1, hw | ⟨h2, ⟨hw, h3⟩ | ⟨hw, h3⟩⟩⟩⟩
  · simp only [RepV.mergeIn, RepV.mergeInK, hw]
    refine ⟨fun _ => h.stay e h1 hc, fun g => (by cases g), fun g => (by cases g), ?_, .inl (by first | rfl | trivial)⟩
    unfold RepV.stay; split <;> exact Int.le_refl _
  · simp only [RepV.mergeIn, RepV.mergeInK, hw]
    exact ⟨fun _ => h, fun g => (by cases g), fun g => (by cases g), Int.le_refl _, .inl (by first | rfl | trivial)⟩
  · simp only [RepV.mergeIn, RepV.mergeInK, hw]
    exact ⟨fun _ => h, fun g => (by cases g), fun g => (by cases g), Int.le_refl _, .inl (by first | rfl | trivial)⟩
  · simp only [RepV.mergeIn, RepV.mergeInK, RepV.mergeInX, RepV.mergeInW, hw]
    have ho := h3
    unfold RepV.overB at ho
    simp only [Bool.and_eq_true] at ho
    have hk := tget_key h.c.ok.gr h.c.ok.grK ho.1
    unfold RepV.wokenW RepV.woken
    by_cases hcn : 4294967295 ≤ r.cnt
    · rw [if_pos hcn, if_pos hcn]
      simp only [show ¬ (8 : Int) = 0 from by decide, if_false]
      exact ⟨fun _ => h, fun g => (by cases g), fun g => (by cases g), Int.le_refl _, .inl (by first | rfl | trivial)⟩
    rw [if_neg hcn, if_neg hcn]
    have h' : BInv { r with cnt := r.cnt + 1 } es := h.withC (by omega)
    by_cases hx : wakeC (tget r.gr e.key) (r.cnt + 1) r.site = 0
    · have nx : ¬ wakeC (tget r.gr e.key) (r.cnt + 1) r.site ≠ 0 := fun g => g hx
      rw [if_neg nx, if_neg nx]
      obtain ⟨s1, s2⟩ := h'.set (e := wakeE (tget r.gr e.key) (r.cnt + 1) r.site) (Int.le_refl _) (fun _ hp => hp) (by show r.roomB (tget r.gr e.key).key = true; rw [hk]; exact h2) (fun p hp hpk => by
        have e1 : p.1 = e.key := by rw [hpk]; exact hk
        have e2 : tget r.gr e.key = p.2 := by rw [← e1]; exact tget_mem h.c.ok.gr hp
        rw [e2]
        have : cmpS p.2.sc p.2.ss p.2.sc p.2.ss = 0 := cmpS_zero.2 ⟨rfl, rfl⟩
        show ¬ 0 < cmpS p.2.sc p.2.ss p.2.sc p.2.ss
        omega)
      have hcn2 := (set_same { r with cnt := r.cnt + 1 } (wakeE (tget r.gr e.key) (r.cnt + 1) r.site)).1
      have hle : r.cnt ≤ ({ r with cnt := r.cnt + 1 }.set (wakeE (tget r.gr e.key) (r.cnt + 1) r.site)).cnt := by rw [hcn2]; show r.cnt ≤ r.cnt + 1; omega
      by_cases hs : { r with cnt := r.cnt + 1 }.setW (wakeE (tget r.gr e.key) (r.cnt + 1) r.site) = 0
      · rw [if_pos hs, if_pos hs]
        refine ⟨fun g => (by cases g), fun g => (by cases g), fun _ => ⟨hs, ⟨h3, rfl, ?_, ?_, hk, rfl⟩, (s1 hs).2, hcn2⟩, hle, .inr (.inr (by first | rfl | trivial))⟩
        · show r.cnt < r.cnt + 1; omega
        · show r.cnt + 1 ≤ 4294967295; omega
      · rw [if_neg hs]
        exact ⟨fun _ => s2 hs, fun g => (by cases g), fun g => (by cases g), hle, .inl (by first | rfl | trivial)⟩
    · rw [if_pos hx, if_pos hx, if_neg hx]
      exact ⟨fun _ => h', fun g => (by cases g), fun g => (by cases g), by show r.cnt ≤ r.cnt + 1; omega, .inl (by first | rfl | trivial)⟩
  · simp only [RepV.mergeIn, RepV.mergeInK, RepV.mergeInX, RepV.mergeInW, hw]
    have hgd : e.dead = true → 0 ≤ e.age := fun hd => by
      have := ((checkE_ok hc).2.2.2.2.2.2.2 hd).1
      unfold keptB at this
      simp only [Bool.and_eq_true, decide_eq_true_eq] at this
      omega
    obtain ⟨s1, s2⟩ := h.set (e := r.aged e (tget r.tab e.key)) hac (fun hd hp => by
      have hd' : e.dead = true := hd
      have ha := h1 hd' hp
      show r.agedV e (tget r.tab e.key) < r.t1
      unfold RepV.agedV
      rw [if_neg (by rw [hd']; decide), if_neg (by omega)]
      split
      · split <;> omega
      · omega) h2 (fun p hp hpk => by
        have e1 : p.1 = e.key := hpk
        have e2 : tget r.gr e.key = p.2 := by rw [← e1]; exact tget_mem h.c.ok.gr hp
        have hh : thas r.gr e.key = true := hasK_iff.2 ⟨p, hp, e1⟩
        unfold RepV.overB at h3
        rw [hh, e2] at h3
        have h4 : ¬ 0 < cmpS p.2.sc p.2.ss e.sc e.ss := by simpa using h3
        exact h4)
    have hcn2 := (set_same r (r.aged e (tget r.tab e.key))).1
    have hle : r.cnt ≤ (r.set (r.aged e (tget r.tab e.key))).cnt := by rw [hcn2]; exact Int.le_refl _
    by_cases hs : r.setW (r.aged e (tget r.tab e.key)) = 0
    · rw [if_pos hs, if_pos hs]
      exact ⟨fun g => (by cases g), fun _ => ⟨hs, h3, (s1 hs).2, rfl⟩, fun g => (by cases g), hle, .inr (.inl (by first | rfl | trivial))⟩
    · rw [if_neg hs]
      exact ⟨fun _ => s2 hs, fun g => (by cases g), fun g => (by cases g), hle, .inl (by first | rfl | trivial)⟩
theorem merge (h : BInv r es) (e : EnV) :
    (r.mergeK e = 0 → BInv (r.merge e) es) ∧
    (r.mergeK e = 1 → r.mergeW e = 0 ∧ r.overB e = false ∧ BInv (r.merge e) (es ++ [r.mergeX e]) ∧ (r.mergeX e).key = e.key) ∧
    (r.mergeK e = 2 → r.mergeW e = 0 ∧ WokenOf r e (r.mergeX e) ∧ BInv (r.merge e) (es ++ [r.mergeX e]) ∧ (r.merge e).cnt = (r.mergeX e).ac) ∧ r.cnt ≤ (r.merge e).cnt ∧ (r.mergeK e = 0 ∨ r.mergeK e = 1 ∨ r.mergeK e = 2) := by
  unfold RepV.mergeK RepV.mergeX RepV.mergeW RepV.merge
  by_cases hc : checkE e = 0
  · have nc : ¬ checkE e ≠ 0 := fun g => g hc
    simp only [if_neg nc]
    obtain ⟨m1, m2, m3, m4, m5⟩ := (h.see e.ac e.az).mergeIn e hc (see_ac hc r)
    have hs := see_le r e.ac e.az
    have hgr : (r.see e.ac e.az).gr = r.gr := (see_tab r e.ac e.az).2.1
    have hst : (r.see e.ac e.az).site = r.site := (SameC.see r e.ac e.az).site
    have hov : (r.see e.ac e.az).overB e = r.overB e := by unfold RepV.overB; rw [hgr]
    refine ⟨m1, fun g => ?_, fun g => ?_, Int.le_trans hs m4, m5⟩
    · obtain ⟨a, b, c, d⟩ := m2 g
      exact ⟨a, by rw [← hov]; exact b, c, d⟩
    · obtain ⟨a, ⟨b1, b2, b3, b4, b5, b6⟩, c, d⟩ := m3 g
      exact ⟨a, ⟨by rw [← hov]; exact b1, by rw [← hgr, ← hst]; exact b2, by omega, b4, b5, by rw [← hst]; exact b6⟩, c, d⟩
  · have pc : checkE e ≠ 0 := hc
    simp only [if_pos pc]
    exact ⟨fun _ => h, fun g => (by cases g), fun g => (by cases g), Int.le_refl _, .inl (by first | rfl | trivial)⟩
end BInv

/-! Opened anew. -/
structure RInv (r : RepV) (l : List EnV) : Prop where
  c : Core r
  gt : ∀ p ∈ r.gr, thas r.tab p.1 = true
  e : ∀ e ∈ l, e.ac ≤ r.cnt ∧ thas r.tab e.key = true
  t : ∀ p ∈ r.tab, ∃ e ∈ l, e.key = p.1

theorem thas_put {l : List KE} (hs : TSrt l) (k : ByteArray) (e : EnV) (k' : ByteArray) : thas (tput l k e) k' = (decide (k = k') || thas l k') := hasK_put kLt_ord hs (k, e) k'

theorem rec1_same (r : RepV) (e : EnV) : SameC r (r.rec1 e) ∧ (r.rec1 e).d = r.d := by
  obtain ⟨_, h2, h3, h4, h5, h6, h7, h8, _⟩ := noted_same r e
  unfold RepV.rec1
  split
  · exact ⟨⟨h2, h3, h4, h5, h6, h7⟩, h8⟩
  · exact ⟨⟨h2, h3, h4, h5, h6, h7⟩, h8⟩

namespace RInv
variable {r q : RepV} {l : List EnV} {e : EnV}
theorem rec1 (h : RInv r l) (hc : checkE e = 0) (ha : e.dead = true → 0 < r.t1 → e.age < r.t1) (hk : r.recOK e = true) : RInv (r.rec1 e) (l ++ [e]) := by
  have hc1 : Core ((r.see e.ac e.az).wrote e) := (h.c.see e.ac e.az).wrote e
  obtain ⟨a1, a2, a3, a4, a5, a6, a7, a8, a9, a10, a11, a12⟩ := wrote_same (r.see e.ac e.az) e
  obtain ⟨b1, b2, b3, b4, b5, b6⟩ := see_tab r e.ac e.az
  have hcn := BInv.see_ac hc r
  have hle := BInv.see_le r e.ac e.az
  have hac : e.ac ≤ ((r.see e.ac e.az).wrote e).cnt := by rw [a2]; exact hcn
  have hbm := bury_mem (site := ((r.see e.ac e.az).wrote e).site) (t2 := ((r.see e.ac e.az).wrote e).t2) (gr := ((r.see e.ac e.az).wrote e).gr) (e := e) hc1.ok.gr
  have hbk : ∀ p ∈ (r.noted e).gr, thas r.tab p.1 = true ∨ p.1 = e.key := fun p hp => by
    rcases hbm p hp with g | ⟨g, _⟩
    · rw [a4, b2] at g; exact .inl (h.gt p g)
    · exact .inr g
  unfold RepV.rec1
  by_cases ho : r.recOld e = true
  · rw [if_pos ho]
    unfold RepV.recOld at ho
    simp only [Bool.and_eq_true, Bool.not_eq_true'] at ho
    have hb : Core (r.noted e) := hc1.buried hac (fun x hx hxk => by
      rw [a1, b1] at hx
      have e2 : tget r.tab e.key = x.2 := by rw [← hxk]; exact tget_mem h.c.ok.tab hx
      have hn := ho.2
      rw [e2] at hn
      have h1 : ¬ newerB e x.2 = true := by rw [hn]; decide
      rw [newerB_iff] at h1
      have h3 := @cmpS_gt e.sc e.ss x.2.sc x.2.ss
      omega)
    have ht : (r.noted e).tab = r.tab := (noted_same r e).1
    have hcc : (r.noted e).cnt = (r.see e.ac e.az).cnt := a2
    refine ⟨hb, fun p hp => ?_, fun x hx => ?_, fun p hp => ?_⟩
    · rw [ht]
      rcases hbk p hp with g | g
      · exact g
      · rw [g]; exact ho.1
    · rw [ht, hcc]
      rcases List.mem_append.1 hx with g | g
      · exact ⟨Int.le_trans (h.e x g).1 hle, (h.e x g).2⟩
      · rw [List.mem_singleton] at g; subst g; exact ⟨hcn, ho.1⟩
    · rw [ht] at hp
      obtain ⟨x, x1, x2⟩ := h.t p hp
      exact ⟨x, by simp [x1], x2⟩
  · rw [if_neg ho]
    have hr : r.roomB e.key = true := by
      unfold RepV.recOK at hk
      simp only [Bool.or_eq_true] at hk
      exact hk.resolve_left ho
    unfold RepV.recOld at ho
    simp only [Bool.and_eq_true, Bool.not_eq_true', not_and, Bool.not_eq_false] at ho
    have hb : Core ((r.noted e).placed e) := by
      refine hc1.placed hc hac (by rw [a3, b3]; exact ha) ?_ fun p hp hpk => ?_
      · have hsc := SameC.see r e.ac e.az
        rw [roomB_same (r := r) (a1.trans b1) (a9.trans hsc.nodes) (a8.trans hsc.quota)]; exact hr
      · rw [a4, b2] at hp
        have hth := h.gt p hp
        obtain ⟨x, hx, hxk, hxg⟩ := thas_mem hth h.c.ok.tab
        have h1 := h.c.old p hp x hx hxk.symm
        have h2 := ho (by rw [← hpk]; exact hth)
        rw [← hpk, hxg, newerB_iff] at h2
        have h3 := @cmpS_gt p.2.sc p.2.ss x.2.sc x.2.ss
        have h4 := @cmpS_gt p.2.sc p.2.ss e.sc e.ss
        omega
    have ht : ((r.noted e).placed e).tab = tput r.tab e.key e := by show tput (r.noted e).tab e.key e = _; rw [(noted_same r e).1]
    have hcc : ((r.noted e).placed e).cnt = (r.see e.ac e.az).cnt := a2
    refine ⟨hb, fun p hp => ?_, fun x hx => ?_, fun p hp => ?_⟩
    · rw [ht, thas_put h.c.ok.tab]
      rcases hbk p hp with g | g
      · rw [g]; simp
      · rw [g]; simp
    · rw [ht, hcc, thas_put h.c.ok.tab]
      rcases List.mem_append.1 hx with g | g
      · refine ⟨Int.le_trans (h.e x g).1 hle, ?_⟩
        rw [(h.e x g).2]; simp
      · rw [List.mem_singleton] at g; subst g; exact ⟨hcn, by simp⟩
    · rw [ht] at hp
      rcases (mem_putK kLt_ord).1 hp with rfl | ⟨hp1, _⟩
      · exact ⟨e, by simp, rfl⟩
      · obtain ⟨x, x1, x2⟩ := h.t p hp1
        exact ⟨x, by simp [x1], x2⟩
theorem recAll (h : RInv r l) {es : List EnV} (he : ∀ e ∈ es, checkE e = 0 ∧ (e.dead = true → 0 < r.t1 → e.age < r.t1)) :
    (∀ q, r.recAll es = some q → RInv q (l ++ es) ∧ SameC r q ∧ q.d = r.d) ∧ (r.recAll es = none → ∃ ks : List ByteArray, ks.Nodup ∧ (∀ k ∈ ks, ∃ e ∈ l ++ es, e.key = k) ∧ r.room < ks.length) := by
  induction es generalizing r l with
  | nil =>
    refine ⟨fun q hq => ?_, fun hq => (by cases hq)⟩
    cases hq
    rw [List.append_nil]; exact ⟨h, SameC.refl _, rfl⟩
  | cons e es ih =>
    obtain ⟨hc, ha⟩ := he e (by simp)
    rw [recAll_cons]
    by_cases hk : r.recOK e = true
    · rw [if_pos hk]
      obtain ⟨s1, s2⟩ := rec1_same r e
      obtain ⟨i1, i2⟩ := ih (h.rec1 hc ha hk) (fun x hx => by rw [s1.t1]; exact he x (by simp [hx]))
      have e1 : l ++ [e] ++ es = l ++ e :: es := by simp
      rw [e1] at i1 i2
      refine ⟨fun q hq => ?_, fun hq => ?_⟩
      · obtain ⟨j1, j2, j3⟩ := i1 q hq
        exact ⟨j1, s1.trans j2, j3.trans s2⟩
      · obtain ⟨ks, j1, j2, j3⟩ := i2 hq
        refine ⟨ks, j1, j2, ?_⟩
        unfold RepV.room at j3 ⊢
        rw [s1.nodes, s1.quota] at j3; exact j3
    · rw [if_neg hk]
      refine ⟨fun q hq => (by cases hq), fun _ => ?_⟩
      unfold RepV.recOK RepV.roomB at hk
      simp only [Bool.or_eq_true, not_or, Bool.not_eq_true, decide_eq_true_eq] at hk
      refine ⟨e.key :: r.tab.map (·.1), ?_, fun k hk' => ?_, ?_⟩
      · refine List.nodup_cons.2 ⟨fun hm => ?_, ?_⟩
        · obtain ⟨p, hp, hpk⟩ := List.mem_map.1 hm
          exact hasK_no.1 hk.2.1 p hp hpk
        · exact List.pairwise_map.2 (List.Pairwise.imp (fun hlt => kLt_ord.ne hlt) h.c.ok.tab)
      · rcases List.mem_cons.1 hk' with rfl | hm
        · exact ⟨e, by simp, rfl⟩
        · obtain ⟨p, hp, rfl⟩ := List.mem_map.1 hm
          obtain ⟨x, x1, x2⟩ := h.t p hp
          exact ⟨x, by simp [x1], x2⟩
      · simp only [List.length_cons, List.length_map]; omega
end RInv

/-- The replica that a disk has, opened anew. -/
def RepV.blank (r : RepV) : RepV := RepV.fresh r.nodes r.quota r.retain r.t1 r.t2 r.site r.d
theorem RepOK.blank {r : RepV} (h : RepOK r) : RepOK r.blank := by
  have h0 : (0 : Int) ≤ r.room := by have := h.len; omega
  exact ⟨List.Pairwise.nil, fun _ h => (by cases h), h0, h.room, List.Pairwise.nil, fun _ h => (by cases h), by simp [RepV.blank, RepV.fresh], ⟨List.Pairwise.nil, fun _ h => (by cases h)⟩, rfl, fun k => rfl, List.Pairwise.nil, fun _ h => (by cases h), by simp [RepV.blank, RepV.fresh], by simp [RepV.blank, RepV.fresh], h.site, Int.le_refl _, h.d, h.t1⟩
theorem BInv.reopen {r : RepV} {es : List EnV} (h : BInv r es) : (∀ q, r.blank.recAll es = some q → BInv q es ∧ SameC r q) ∧ (r.blank.recAll es = none → ∃ ks : List ByteArray, ks.Nodup ∧ (∀ k ∈ ks, ∃ e ∈ es, e.key = k) ∧ r.room < ks.length) := by
  have h0 : RInv r.blank [] := ⟨Core.fresh h.c.ok.blank rfl rfl rfl, fun _ g => (by cases g), fun _ g => (by cases g), fun _ g => (by cases g)⟩
  obtain ⟨i1, i2⟩ := h0.recAll (es := es) (fun e he => ⟨(h.e e he).1, (h.e e he).2.2⟩)
  refine ⟨fun q hq => ?_, i2⟩
  obtain ⟨j1, j2, j3⟩ := i1 q hq
  refine ⟨⟨j1.c, by rw [j3]; exact h.d, fun e he => ⟨(h.e e he).1, (j1.e e he).1, ?_⟩, j1.t⟩, ⟨j2.nodes, j2.quota, j2.retain, j2.t1, j2.t2, j2.site⟩⟩
  rw [j2.t1]; exact (h.e e he).2.2
end Go.Proofs.YtggbeedghblakaaGreatDoor
