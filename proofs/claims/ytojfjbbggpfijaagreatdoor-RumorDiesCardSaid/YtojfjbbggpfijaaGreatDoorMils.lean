/- Mils: several texts, joined. What a mill does with the entries of a message, in plain Lean; a disk without a fuse never lacks power; without expiry each entry is taken, or old. -/
import Derived.Test.YtojfjbbggpfijaaGreatDoorRumsA
import Derived.Test.YtojfjbbggpfijaaGreatDoorNewestL
import Derived.Test.YtojfjbbggpfijaaGreatDoorRepsM
namespace Go.Proofs.YtojfjbbggpfijaaGreatDoor
open Go.RowKit Go.Qd RepV

/-- A disk with power, and no fuse. -/
structure CalmD (d : DskV) : Prop where
  on : d.off = false
  left : d.left = -1
theorem CalmD.new : CalmD DskV.new := ⟨rfl, rfl⟩
theorem CalmD.used {d : DskV} (h : CalmD d) : d.used = d := by unfold DskV.used; rw [h.left]; simp
theorem CalmD.code {d : DskV} (h : CalmD d) (z : Int) (hz : z ≠ 11) : d.code z ≠ 11 := by
  unfold DskV.code; rw [h.on, h.left]
  by_cases h0 : z ≠ 0
  · simp [h0, hz]
  · simp at h0; simp [h0]
theorem CalmD.append {d : DskV} (h : CalmD d) (x : List UInt8) : CalmD (d.append x) := by
  unfold DskV.append
  rw [h.used]
  split
  · exact ⟨h.on, h.left⟩
  · split <;> exact h
theorem CalmD.sync {d : DskV} (h : CalmD d) : CalmD d.sync := by
  unfold DskV.sync
  rw [h.used]
  split
  · exact ⟨h.on, h.left⟩
  · split <;> exact h
theorem CalmD.add {d : DskV} (h : CalmD d) (x : List UInt8) : CalmD (d.add x) := by
  unfold DskV.add
  split
  · exact h
  · split
    · exact h
    · split
      · exact h.append _
      · exact (h.append _).sync
theorem CalmD.addW {d : DskV} (h : CalmD d) (x : List UInt8) : d.addW x ≠ 11 := by
  unfold DskV.addW
  split
  · decide
  · split
    · decide
    · split
      · refine h.code _ ?_
        unfold DskV.appendW; split <;> decide
      · exact (h.append _).code 0 (by decide)
theorem checkE_no (e : EnV) : checkE e ≠ 11 := by
  unfold checkE
  split
  · decide
  · split
    · decide
    · split
      · decide
      · split <;> decide
theorem wrote_dsk (q : RepV) (f : EnV) : (q.wrote f).d = q.d ∧ (q.wrote f).tab = q.tab ∧ (q.wrote f).gr = q.gr ∧ (q.wrote f).t1 = q.t1 ∧ (q.wrote f).t2 = q.t2 ∧ (q.wrote f).site = q.site ∧ (q.wrote f).nodes = q.nodes ∧ (q.wrote f).quota = q.quota := by
  unfold RepV.wrote; split <;> exact ⟨rfl, rfl, rfl, rfl, rfl, rfl, rfl, rfl⟩
namespace RepV
variable {r : RepV}
/-- What an entry that is set down leaves. -/
theorem set_out (r : RepV) (e : EnV) : (r.set e = r ∧ r.setW e ≠ 0) ∨ (r.set e = { r with d := r.d.add (encE e) } ∧ r.setW e ≠ 0) ∨
    (r.set e = (({ r with d := r.d.add (encE e) }.wrote e).buried e).placed e ∧ r.setW e = 0 ∧ checkE e = 0) ∨ (r.set e = ({ r with d := r.d.add (encE e) }.wrote e).buried e ∧ r.setW e ≠ 0 ∧ checkE e = 0) := by
  unfold RepV.set RepV.setW
  by_cases h1 : checkE e ≠ 0
  · exact .inl ⟨if_pos h1, by rw [if_pos h1]; exact h1⟩
  · rw [if_neg h1, if_neg h1]
    by_cases h2 : r.d.addW (encE e) ≠ 0
    · exact .inr (.inl ⟨if_pos h2, by rw [if_pos h2]; exact h2⟩)
    · rw [if_neg h2, if_neg h2]
      by_cases h3 : r.roomB e.key = true
      · exact .inr (.inr (.inl ⟨if_pos h3, if_pos h3, Classical.not_not.1 h1⟩))
      · exact .inr (.inr (.inr ⟨if_neg h3, by rw [if_neg h3]; decide, Classical.not_not.1 h1⟩))
theorem set_calm (h : CalmD r.d) (e : EnV) : CalmD (r.set e).d ∧ r.setW e ≠ 11 := by
  have hw := (wrote_dsk { r with d := r.d.add (encE e) } e).1
  constructor
  · rcases set_out r e with g | g | g | g
    · rw [g.1]; exact h
    · rw [g.1]; exact h.add (encE e)
    · rw [g.1]; show CalmD ({ r with d := r.d.add (encE e) }.wrote e).d; rw [hw]; exact h.add (encE e)
    · rw [g.1]; show CalmD ({ r with d := r.d.add (encE e) }.wrote e).d; rw [hw]; exact h.add (encE e)
  · unfold RepV.setW
    split
    · exact checkE_no e
    · split
      · exact h.addW _
      · split <;> decide
theorem woken_calm (h : CalmD r.d) (k : ByteArray) : CalmD (r.woken k).d ∧ r.wokenW k ≠ 11 := by
  unfold RepV.woken RepV.wokenW
  split
  · exact ⟨h, by decide⟩
  · split
    · refine ⟨h, ?_⟩
      unfold wakeC
      split
      · exact checkE_no _
      · split <;> decide
    · exact set_calm (r := { r with cnt := r.cnt + 1 }) h _
theorem see_d (r : RepV) (c s : Int) : (r.see c s).d = r.d := (see_tab r c s).2.2.2.2.2
theorem merge_calm (h : CalmD r.d) (e : EnV) : CalmD (r.merge e).d ∧ r.mergeW e ≠ 11 := by
  unfold RepV.merge RepV.mergeW
  split
  · exact ⟨h, checkE_no e⟩
  · have h2 : CalmD (r.see e.ac e.az).d := by rw [see_d]; exact h
    generalize r.see e.ac e.az = q at h2
    unfold RepV.mergeIn RepV.mergeInW
    split
    · refine ⟨?_, by decide⟩
      unfold RepV.stay; split <;> exact h2
    · exact ⟨h2, by decide⟩
    · exact ⟨h2, by decide⟩
    · exact woken_calm h2 _
    · exact set_calm h2 _
theorem put_calm (h : CalmD r.d) (k v : ByteArray) : CalmD (r.put k v).d := by
  unfold RepV.put
  split
  · exact h
  · unfold RepV.write
    split
    · exact h
    · split
      · exact h
      · split
        · exact h
        · exact (set_calm (r := { r with cnt := r.cnt + 1 }) h _).1
end RepV

namespace RepV
/-- What of a replica never changes. -/
def cfgV (r : RepV) : Int × Int × Int × Int × Int × Int := (r.nodes, r.quota, r.retain, r.t1, r.t2, r.site)
theorem wrote_cfg (q : RepV) (f : EnV) : (q.wrote f).cfgV = q.cfgV := by unfold RepV.wrote; split <;> rfl
theorem set_cfg (r : RepV) (e : EnV) : (r.set e).cfgV = r.cfgV := by
  have h := wrote_cfg { r with d := r.d.add (encE e) } e
  rcases set_out r e with g | g | g | g
  · rw [g.1]
  · rw [g.1]; rfl
  · rw [g.1]; exact h
  · rw [g.1]; exact h
theorem woken_cfg (r : RepV) (k : ByteArray) : (r.woken k).cfgV = r.cfgV := by
  unfold RepV.woken
  split
  · rfl
  · split
    · rfl
    · exact (set_cfg _ _).trans rfl
theorem merge_cfg (r : RepV) (e : EnV) : (r.merge e).cfgV = r.cfgV := by
  unfold RepV.merge
  split
  · rfl
  · have h : (r.see e.ac e.az).cfgV = r.cfgV := by unfold RepV.see; split <;> rfl
    rw [← h]
    generalize r.see e.ac e.az = q
    unfold RepV.mergeIn
    split
    · unfold RepV.stay; split <;> rfl
    · rfl
    · rfl
    · exact woken_cfg _ _
    · exact set_cfg _ _
theorem put_cfg (r : RepV) (k v : ByteArray) : (r.put k v).cfgV = r.cfgV := by
  unfold RepV.put
  split
  · rfl
  · unfold RepV.write
    split
    · rfl
    · split
      · rfl
      · split
        · rfl
        · exact (set_cfg _ _).trans rfl
end RepV

/-- A mill's state, and what it tells of a message's entries. -/
structure MilV where
  r : RepV
  l : List TkV
  news : List EnV
  known : List MkV
def mmStep (H : Int) (s : MilV) (e : EnV) : MilV :=
  ⟨s.r.merge e, if s.r.mergeK e = 0 then s.l else heatL H s.l (s.r.mergeX e), if s.r.mergeK e = 0 then s.news else s.news ++ [s.r.mergeX e], if s.r.mergeK e = 1 then s.known else s.known ++ [e.mark]⟩
def mmL (H : Int) (s : MilV) (es : List EnV) : MilV := es.foldl (mmStep H) s
theorem mmL_take {H : Int} {s : MilV} {es : List EnV} {i : Nat} (h : i < es.length) : mmL H s (es.take (i + 1)) = mmStep H (mmL H s (es.take i)) es[i] := by
  unfold mmL; rw [List.take_succ_eq_append_getElem h, List.foldl_append]; rfl
/-- What stays so. -/
structure MilI (H L : Int) (s : MilV) : Prop where
  ok : RepOK s.r
  calm : CalmD s.r.d
  hot : HotI H L s.l
theorem MilI.step {H L : Int} {s : MilV} (h : MilI H L s) (hH : 1 ≤ H) (hL : 1 ≤ L) (e : EnV) : MilI H L (mmStep H s e) := by
  refine ⟨h.ok.merge e, (RepV.merge_calm h.calm e).1, ?_⟩
  unfold mmStep
  dsimp only
  split
  · exact h.hot
  · exact h.hot.heat hH hL _
theorem MilI.all {H L : Int} {s : MilV} (h : MilI H L s) (hH : 1 ≤ H) (hL : 1 ≤ L) (es : List EnV) : MilI H L (mmL H s es) := by
  unfold mmL
  induction es generalizing s with
  | nil => exact h
  | cons e es ih => exact ih (h.step hH hL e)
theorem mmL_cfg (H : Int) (es : List EnV) (s : MilV) : (mmL H s es).r.cfgV = s.r.cfgV := by
  unfold mmL
  induction es generalizing s with
  | nil => rfl
  | cons e es ih => exact (ih (mmStep H s e)).trans (RepV.merge_cfg _ _)
theorem mmStep_len (H : Int) (s : MilV) (e : EnV) : (mmStep H s e).news.length ≤ s.news.length + 1 ∧ (mmStep H s e).known.length ≤ s.known.length + 1 := by
  unfold mmStep
  dsimp only
  constructor <;> split <;> simp
theorem mmL_len (H : Int) (es : List EnV) (s : MilV) : (mmL H s es).news.length ≤ s.news.length + es.length ∧ (mmL H s es).known.length ≤ s.known.length + es.length := by
  unfold mmL
  induction es generalizing s with
  | nil => exact ⟨Nat.le_refl _, Nat.le_refl _⟩
  | cons e es ih =>
    have h1 := mmStep_len H s e
    have h2 := ih (mmStep H s e)
    rw [List.foldl_cons, List.length_cons]
    omega
end Go.Proofs.YtojfjbbggpfijaaGreatDoor

/- A replica without expiry and without graves, in plain Lean: what comes in is taken, or old; of no key does it have an older entry than it had. -/
namespace Go.Proofs.YtojfjbbggpfijaaGreatDoor
open Go.RowKit Go.Qd RepV

structure NoX (r : RepV) : Prop where
  t1 : r.t1 = 0
  t2 : r.t2 = 0
  gr : r.gr = []
theorem tget_tput {l : List KE} (hs : TSrt l) (k : ByteArray) (e : EnV) (k' : ByteArray) : tget (tput l k e) k' = if k = k' then e else tget l k' := by
  have := getK_put kLt_ord hs (k, e) k'
  unfold tget tput
  rw [this]
  show ((if k = k' then some (k, e) else getK Prod.fst l k').map (·.2)).getD EnV.zero = _
  split <;> rfl
theorem thas_tput {l : List KE} (hs : TSrt l) (k : ByteArray) (e : EnV) (k' : ByteArray) : thas (tput l k e) k' = (decide (k = k') || thas l k') := hasK_put kLt_ord hs (k, e) k'
theorem buryT_nox (site : Int) (f : EnV) (hf : checkE f = 0) : buryT site 0 [] f = [] := by
  unfold buryT
  rw [if_pos]
  cases hd : dutyB f site with
  | false => simp
  | true =>
    have h1 : f.dead = true := by
      unfold dutyB at hd
      simp only [Bool.and_eq_true] at hd
      exact hd.1
    have h2 := ((checkE_ok hf).2.2.2.2.2.2.2 h1).1
    unfold keptB at h2
    simp only [Bool.and_eq_true, decide_eq_true_eq] at h2
    simp only [Bool.or_eq_true, decide_eq_true_eq]
    right; right; omega
/-- Nothing of a table is forgotten, and nothing becomes older. -/
def NewT (a b : List KE) : Prop := ∀ k, thas a k = true → thas b k = true ∧ newerB (tget a k) (tget b k) = false
theorem NewT.refl (a : List KE) : NewT a a := fun _ h => ⟨h, newerB_irr _⟩
theorem NewT.trans {a b c : List KE} (h : NewT a b) (g : NewT b c) : NewT a c := fun k hk => ⟨(g k (h k hk).1).1, newerB_not (h k hk).2 (g k (h k hk).1).2⟩
theorem NewT.put {l : List KE} (hs : TSrt l) {k : ByteArray} {e : EnV} (h : thas l k = true → newerB (tget l k) e = false) : NewT l (tput l k e) := fun k' hk => by
  rw [thas_tput hs, tget_tput hs]
  by_cases hkk : k = k'
  · subst hkk; rw [if_pos rfl]; exact ⟨by simp [hk], h hk⟩
  · rw [if_neg hkk]; exact ⟨by simp [hk], newerB_irr _⟩
theorem newerB_asym {a b : EnV} (h : newerB a b = true) : newerB b a = false := by
  cases g : newerB b a with
  | false => rfl
  | true => have := newerB_trans h g; rw [newerB_irr] at this; cases this
namespace RepV
variable {r : RepV}
theorem aged_ver (r : RepV) (e was : EnV) : newerB was (r.aged e was) = newerB was e := newerB_ver rfl rfl rfl rfl rfl rfl rfl rfl
/-- An entry comes in. -/
theorem merge_nox (h : NoX r) (hr : RepOK r) (e : EnV) : NoX (r.merge e) ∧ (r.mergeK e = 0 ∨ r.mergeK e = 1) ∧ NewT r.tab (r.merge e).tab ∧
    (r.mergeK e = 1 → thas (r.merge e).tab (r.mergeX e).key = true ∧ tget (r.merge e).tab (r.mergeX e).key = r.mergeX e ∧ checkE (r.mergeX e) = 0) := by
  unfold RepV.merge RepV.mergeK RepV.mergeX
  by_cases hc : checkE e ≠ 0
  · rw [if_pos hc, if_pos hc, if_pos hc]
    exact ⟨h, .inl rfl, NewT.refl _, fun g => by cases g⟩
  · rw [if_neg hc, if_neg hc, if_neg hc]
    obtain ⟨e1, e2, e3, e4, e5, e6⟩ := see_tab r e.ac e.az
    have hq : NoX (r.see e.ac e.az) := ⟨by rw [e3]; exact h.t1, by rw [e4]; exact h.t2, by rw [e2]; exact h.gr⟩
    have hqo := hr.see e.ac e.az
    rw [← e1]
    generalize r.see e.ac e.az = q at hq hqo
    clear e1 e2 e3 e4 e5 e6 h hr
    have hov : q.overB e = false := by unfold RepV.overB; rw [hq.gr]; rfl
    unfold RepV.mergeIn RepV.mergeInK RepV.mergeInX
    obtain ⟨n, hn⟩ : ∃ n, q.way e = n := ⟨_, rfl⟩
    rw [hn]
    have hn3 : n ≠ 3 := by
      rw [← hn]; unfold RepV.way
      rw [hov]
      split
      · decide
      · split
        · decide
        · split
          · decide
          · decide
    match n, hn, hn3 with
    | 0, hn, _ =>
      refine ⟨?_, .inl rfl, ?_, fun g => by cases g⟩
      · show NoX (q.stay e)
        unfold RepV.stay; split
        · exact ⟨hq.t1, hq.t2, hq.gr⟩
        · exact hq
      · show NewT q.tab (q.stay e).tab
        unfold RepV.stay; split
        · exact NewT.put hqo.tab (fun _ => by rw [← newerB_irr (tget q.tab e.key)]; exact newerB_ver rfl rfl rfl rfl rfl rfl rfl rfl)
        · exact NewT.refl _
    | 1, _, _ => exact ⟨hq, .inl rfl, NewT.refl _, fun g => by cases g⟩
    | 2, _, _ => exact ⟨hq, .inl rfl, NewT.refl _, fun g => by cases g⟩
    | 3, _, h3 => exact absurd rfl h3
    | n + 4, hn, _ =>
      have hw0 : thas q.tab e.key = true → newerB e (tget q.tab e.key) = true := by
        intro ht
        cases hb : newerB e (tget q.tab e.key) with
        | true => rfl
        | false =>
          unfold RepV.way at hn
          rw [ht, hb] at hn
          simp at hn
      show NoX (q.set (q.aged e (tget q.tab e.key))) ∧ ((if q.setW (q.aged e (tget q.tab e.key)) = 0 then (1 : Int) else 0) = 0 ∨ (if q.setW (q.aged e (tget q.tab e.key)) = 0 then (1 : Int) else 0) = 1) ∧ NewT q.tab (q.set (q.aged e (tget q.tab e.key))).tab ∧
        ((if q.setW (q.aged e (tget q.tab e.key)) = 0 then (1 : Int) else 0) = 1 → thas (q.set (q.aged e (tget q.tab e.key))).tab (if q.setW (q.aged e (tget q.tab e.key)) = 0 then q.aged e (tget q.tab e.key) else EnV.zero).key = true ∧ tget (q.set (q.aged e (tget q.tab e.key))).tab (if q.setW (q.aged e (tget q.tab e.key)) = 0 then q.aged e (tget q.tab e.key) else EnV.zero).key = (if q.setW (q.aged e (tget q.tab e.key)) = 0 then q.aged e (tget q.tab e.key) else EnV.zero) ∧ checkE (if q.setW (q.aged e (tget q.tab e.key)) = 0 then q.aged e (tget q.tab e.key) else EnV.zero) = 0)
      have hfk : (q.aged e (tget q.tab e.key)).key = e.key := rfl
      have hfn : thas q.tab (q.aged e (tget q.tab e.key)).key = true → newerB (tget q.tab (q.aged e (tget q.tab e.key)).key) (q.aged e (tget q.tab e.key)) = false := by
        rw [hfk]
        intro ht
        rw [aged_ver]
        exact newerB_asym (hw0 ht)
      generalize q.aged e (tget q.tab e.key) = f at hfn
      have hb := wrote_dsk { q with d := q.d.add (encE f) } f
      have hgr : checkE f = 0 → (({ q with d := q.d.add (encE f) }.wrote f).buried f).gr = [] := fun hf => by
        show buryT ({ q with d := q.d.add (encE f) }.wrote f).site ({ q with d := q.d.add (encE f) }.wrote f).t2 ({ q with d := q.d.add (encE f) }.wrote f).gr f = []
        rw [hb.2.2.1, hb.2.2.2.2.1]
        show buryT _ q.t2 q.gr f = []
        rw [hq.t2, hq.gr]
        exact buryT_nox _ f hf
      have ht1 : (({ q with d := q.d.add (encE f) }.wrote f).buried f).t1 = 0 := (hb.2.2.2.1).trans hq.t1
      have ht2 : (({ q with d := q.d.add (encE f) }.wrote f).buried f).t2 = 0 := (hb.2.2.2.2.1).trans hq.t2
      have htab : (({ q with d := q.d.add (encE f) }.wrote f).buried f).tab = q.tab := hb.2.1
      rcases set_out q f with ⟨g1, g2⟩ | ⟨g1, g2⟩ | ⟨g1, g2, g3⟩ | ⟨g1, g2, hcf⟩
      · rw [g1, if_neg g2]
        exact ⟨hq, .inl rfl, NewT.refl _, fun g => by cases g⟩
      · rw [g1, if_neg g2]
        exact ⟨⟨hq.t1, hq.t2, hq.gr⟩, .inl rfl, NewT.refl _, fun g => by cases g⟩
      · rw [g1, if_pos g2, if_pos g2]
        have hp : ((({ q with d := q.d.add (encE f) }.wrote f).buried f).placed f).tab = tput q.tab f.key f := by
          show tput (({ q with d := q.d.add (encE f) }.wrote f).buried f).tab f.key f = _
          rw [htab]
        refine ⟨⟨ht1, ht2, hgr g3⟩, .inr rfl, ?_, fun _ => ?_⟩
        · rw [hp]; exact NewT.put hqo.tab hfn
        · rw [hp, thas_tput hqo.tab, tget_tput hqo.tab, if_pos rfl]
          exact ⟨by simp, rfl, g3⟩
      · rw [g1, if_neg g2]
        refine ⟨⟨ht1, ht2, hgr hcf⟩, .inl rfl, ?_, fun g => by cases g⟩
        rw [htab]; exact NewT.refl _
end RepV
/-- What a mill tells as new is in its replica, or something newer. -/
structure EchI (s : MilV) : Prop where
  ok : RepOK s.r
  nox : NoX s.r
  news : ∀ x ∈ s.news, thas s.r.tab x.key = true ∧ newerB x (tget s.r.tab x.key) = false
theorem EchI.step {H : Int} {s : MilV} (h : EchI s) (e : EnV) : EchI (mmStep H s e) ∧ (mmStep H s e).news.length + (mmStep H s e).known.length = s.news.length + s.known.length + 1 := by
  obtain ⟨m1, m2, m3, m4⟩ := RepV.merge_nox h.nox h.ok e
  have hold : ∀ x ∈ s.news, thas (s.r.merge e).tab x.key = true ∧ newerB x (tget (s.r.merge e).tab x.key) = false := fun x hx => by
    obtain ⟨a, b⟩ := h.news x hx
    obtain ⟨c, d⟩ := m3 _ a
    exact ⟨c, newerB_not b d⟩
  unfold mmStep
  rcases m2 with g | g
  · rw [if_pos g, if_pos g, if_neg (by rw [g]; decide)]
    exact ⟨⟨h.ok.merge e, m1, hold⟩, by simp; omega⟩
  · rw [if_neg (by rw [g]; decide), if_neg (by rw [g]; decide), if_pos g]
    obtain ⟨n1, n2, _⟩ := m4 g
    refine ⟨⟨h.ok.merge e, m1, fun x hx => ?_⟩, by simp; omega⟩
    rcases List.mem_append.1 hx with q | q
    · exact hold x q
    · have hq : x = s.r.mergeX e := by simpa using q
      show thas (s.r.merge e).tab x.key = true ∧ newerB x (tget (s.r.merge e).tab x.key) = false
      rw [hq]
      exact ⟨n1, by rw [n2]; exact newerB_irr _⟩
theorem EchI.all {H : Int} (es : List EnV) {s : MilV} (h : EchI s) : EchI (mmL H s es) ∧ (mmL H s es).news.length + (mmL H s es).known.length = s.news.length + s.known.length + es.length := by
  unfold mmL
  induction es generalizing s with
  | nil => exact ⟨h, rfl⟩
  | cons e es ih =>
    obtain ⟨h1, h2⟩ := h.step (H := H) e
    obtain ⟨g1, g2⟩ := ih h1
    exact ⟨g1, by rw [List.foldl_cons, g2, h2, List.length_cons]; omega⟩
theorem NoX.start {nodes quota retain site : Int} {d : DskV} : NoX (RepV.fresh nodes quota retain 0 0 site d) := ⟨rfl, rfl, rfl⟩
end Go.Proofs.YtojfjbbggpfijaaGreatDoor
