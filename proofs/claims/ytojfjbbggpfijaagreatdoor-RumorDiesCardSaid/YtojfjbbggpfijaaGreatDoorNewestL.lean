/- The newest, in plain Lean: what a replica without expiry has, whatever comes in. -/
import Derived.Test.YtojfjbbggpfijaaGreatDoorKeys
namespace Go.Proofs.YtojfjbbggpfijaaGreatDoor
open Go.RowKit Go.Qd

/-- A disk with power, no fuse, and not full. -/
structure EasyD (d : DskV) (n : Nat) : Prop where
  on : d.off = false
  left : d.left = -1
  len : d.b.length ≤ n * 128

theorem EasyD.new : EasyD DskV.new 0 := ⟨rfl, rfl, Nat.le_refl _⟩
theorem EasyD.add {d : DskV} {n : Nat} (h : EasyD d n) {x : List UInt8} (h1 : 1 ≤ x.length) (h2 : x.length ≤ 118) (hn : n + 1 ≤ 8192) : d.addW x = 0 ∧ EasyD (d.add x) (n + 1) := by
  have hl := h.len
  have hz : ¬ x.length = 0 := by omega
  have hb : ¬ 512 < x.length := by omega
  have ha : d.appendW (recB x).length = 0 := by unfold DskV.appendW; rw [recB_len, if_pos (by omega)]
  have hc : d.code 0 = 0 := by unfold DskV.code; rw [h.on, h.left]; simp
  have hu : d.used = d := by unfold DskV.used; rw [h.left]; simp
  have e1 : d.append (recB x) = { d with b := d.b ++ recB x } := by unfold DskV.append; rw [ha, hc, if_pos rfl, hu]
  have hc2 : (d.append (recB x)).code 0 = 0 := by rw [e1]; unfold DskV.code; rw [h.on, h.left]; simp
  have hu2 : (d.append (recB x)).used = d.append (recB x) := by rw [e1]; unfold DskV.used; rw [h.left]; simp
  constructor
  · unfold DskV.addW
    rw [if_neg hz, if_neg hb, ha, if_neg (by rw [hc]; simp), hc2]
  · unfold DskV.add DskV.sync
    rw [if_neg hz, if_neg hb, ha, if_neg (by rw [hc]; simp), if_pos hc2, hu2, e1]
    exact ⟨h.on, h.left, by simp only [List.length_append, recB_len]; omega⟩

/-- The same, but for their ages. -/
def alikeE (a b : EnV) : Prop := a.key = b.key ∧ a.val = b.val ∧ a.dead = b.dead ∧ a.sc = b.sc ∧ a.ss = b.ss ∧ a.ac = b.ac ∧ a.az = b.az ∧ a.kp = b.kp
theorem alikeE_rfl (a : EnV) : alikeE a a := ⟨rfl, rfl, rfl, rfl, rfl, rfl, rfl, rfl⟩

structure NInv (r : RepV) (l : List EnV) : Prop where
  t1 : r.t1 = 0
  gr : r.gr = []
  t2 : r.t2 = 0
  room : r.room = 768
  srt : TSrt r.tab
  len : r.tab.length ≤ l.length
  disk : EasyD r.d l.length
  all : ∀ p ∈ r.tab, p.1 = p.2.key ∧ checkE p.2 = 0 ∧ ∃ y ∈ l, checkE y = 0 ∧ alikeE y p.2
  new : ∀ y ∈ l, checkE y = 0 → ∃ p ∈ r.tab, p.1 = y.key ∧ newerB y p.2 = false

theorem checkE_len {e : EnV} (h : checkE e = 0) : 1 ≤ (encE e).length ∧ (encE e).length ≤ 118 := by
  obtain ⟨h1, h2, h3, _⟩ := checkE_ok h
  rw [encE_len]; omega

theorem checkE_age {e : EnV} (h : checkE e = 0) {n : Int} (hn : e.dead = false → n = e.age) (h0 : 0 ≤ n ∧ n ≤ 2147483647) : checkE { e with age := n } = 0 := by
  obtain ⟨h1, h2, h3, h4, h5, h6, h7, h8⟩ := checkE_ok h
  refine checkE_of ⟨h1, h2⟩ h3 h4 h5 h6 (fun hd => ?_) fun hd => ?_
  · have := h7 hd
    unfold plainB at this ⊢
    rw [hn hd]; exact this
  · obtain ⟨g1, g2⟩ := h8 hd
    refine ⟨?_, g2⟩
    unfold keptB at g1 ⊢
    simp only [Bool.and_eq_true, decide_eq_true_eq] at g1 ⊢
    exact ⟨g1.1, g1.2.1, h0.1, h0.2⟩

theorem checkE_live {e : EnV} (h : checkE e = 0) (hd : e.dead = false) : e.age = 0 := by
  have := (checkE_ok h).2.2.2.2.2.2.1 hd
  unfold plainB at this
  simp only [Bool.and_eq_true, beq_iff_eq] at this
  exact this.2.2.2

theorem tget_mem {l : List KE} (hs : TSrt l) {p : KE} (hp : p ∈ l) : tget l p.1 = p.2 := by
  unfold tget; rw [getK_mem kLt_ord hs hp]; rfl
theorem thas_mem {l : List KE} {k : ByteArray} (h : thas l k = true) (hs : TSrt l) : ∃ p ∈ l, p.1 = k ∧ tget l k = p.2 := by
  obtain ⟨p, hp, rfl⟩ := hasK_iff.1 h
  exact ⟨p, hp, rfl, tget_mem hs hp⟩

theorem see_tab (r : RepV) (c s : Int) : (r.see c s).tab = r.tab ∧ (r.see c s).gr = r.gr ∧ (r.see c s).t1 = r.t1 ∧ (r.see c s).t2 = r.t2 ∧ (r.see c s).room = r.room ∧ (r.see c s).d = r.d := by
  unfold RepV.see; split <;> exact ⟨rfl, rfl, rfl, rfl, rfl, rfl⟩

theorem NInv.see {r : RepV} {l : List EnV} (h : NInv r l) (c s : Int) : NInv (r.see c s) l := by
  obtain ⟨e1, e2, e3, e4, e5, e6⟩ := see_tab r c s
  exact ⟨by rw [e3]; exact h.t1, by rw [e2]; exact h.gr, by rw [e4]; exact h.t2, by rw [e5]; exact h.room, by rw [e1]; exact h.srt, by rw [e1]; exact h.len, by rw [e6]; exact h.disk, by rw [e1]; exact h.all, by rw [e1]; exact h.new⟩

/-- An entry that may be is put: then the table has it. -/
theorem NInv.put {r r' : RepV} {l : List EnV} (h : NInv r l) {e f : EnV} (he : checkE e = 0) (hf : checkE f = 0) (hk : f.key = e.key) (hy : (∃ y ∈ l ++ [e], checkE y = 0 ∧ alikeE y f)) (hn : newerB e f = false)
    (hold : ∀ p ∈ r.tab, p.1 = e.key → newerB p.2 f = false) (h1 : r'.t1 = r.t1) (h2 : r'.gr = []) (h3 : r'.t2 = r.t2) (h4 : r'.room = r.room) (h5 : r'.tab = tput r.tab e.key f) (h6 : EasyD r'.d (l.length + 1)) : NInv r' (l ++ [e]) := by
  have hm : ∀ p, p ∈ r'.tab ↔ p = (e.key, f) ∨ (p ∈ r.tab ∧ p.1 ≠ e.key) := fun p => by rw [h5]; exact mem_putK kLt_ord
  refine ⟨by rw [h1]; exact h.t1, h2, by rw [h3]; exact h.t2, by rw [h4]; exact h.room, by rw [h5]; exact putK_srt kLt_ord h.srt _, ?_, by simpa using h6, fun p hp => ?_, fun y hy' hc => ?_⟩
  · rw [h5]
    have hl := h.len
    cases hh : thas r.tab e.key with
    | true => have := putK_len_old kLt_ord h.srt (e.key, f) hh; unfold tput; rw [this]; simp; omega
    | false => have := putK_len_new kLt_ord h.srt (e.key, f) hh; unfold tput; rw [this]; simp; omega
  · rcases (hm p).1 hp with rfl | ⟨g1, g2⟩
    · exact ⟨hk.symm, hf, hy⟩
    · obtain ⟨a1, a2, y, a3, a4⟩ := h.all p g1
      exact ⟨a1, a2, y, by simp [a3], a4⟩
  · rcases List.mem_append.1 hy' with g | g
    · obtain ⟨p, g1, g2, g3⟩ := h.new y g hc
      by_cases hq : p.1 = e.key
      · refine ⟨(e.key, f), (hm _).2 (.inl rfl), ?_, ?_⟩
        · show e.key = y.key; rw [← g2, hq]
        · exact newerB_not g3 (hold p g1 hq)
      · exact ⟨p, (hm p).2 (.inr ⟨g1, hq⟩), g2, g3⟩
    · rw [List.mem_singleton] at g; subst g
      exact ⟨(y.key, f), (hm _).2 (.inl rfl), rfl, hn⟩

theorem NInv.more {r : RepV} {l : List EnV} (h : NInv r l) {e : EnV} (hc : checkE e = 0 → ∃ p ∈ r.tab, p.1 = e.key ∧ newerB e p.2 = false) : NInv r (l ++ [e]) := by
  refine ⟨h.t1, h.gr, h.t2, h.room, h.srt, by have := h.len; simp; omega, ⟨h.disk.on, h.disk.left, by have := h.disk.len; simp; omega⟩, fun p hp => ?_, fun y hy hcy => ?_⟩
  · obtain ⟨a1, a2, y, a3, a4⟩ := h.all p hp
    exact ⟨a1, a2, y, by simp [a3], a4⟩
  · rcases List.mem_append.1 hy with g | g
    · exact h.new y g hcy
    · rw [List.mem_singleton] at g; subst g; exact hc hcy

theorem newerB_ver {a b c d : EnV} (h1 : a.sc = c.sc) (h2 : a.ss = c.ss) (h3 : a.ac = c.ac) (h4 : a.az = c.az) (h5 : b.sc = d.sc) (h6 : b.ss = d.ss) (h7 : b.ac = d.ac) (h8 : b.az = d.az) : newerB a b = newerB c d := by
  unfold newerB; rw [h1, h2, h3, h4, h5, h6, h7, h8]

/-- An entry comes in: it is taken, or it is there; what it told of its error is what it has wrong. -/
theorem NInv.step {r : RepV} {l : List EnV} (h : NInv r l) (hl : l.length < 768) (e : EnV) : NInv (r.merge e) (l ++ [e]) ∧ r.mergeW e = checkE e := by
  unfold RepV.merge RepV.mergeW
  by_cases hc : checkE e = 0
  · rw [if_neg (by rw [hc]; simp), if_neg (by rw [hc]; simp), hc]
    have h' := h.see e.ac e.az
    generalize r.see e.ac e.az = q at h' ⊢
    have hnew : ¬ q.t1 ≠ 0 := by rw [h'.t1]; simp
    by_cases hw0 : (thas q.tab e.key && !newerB e (tget q.tab e.key)) = true
    · have hw : q.way e = 0 := by unfold RepV.way; rw [if_pos hw0]
      simp only [RepV.mergeIn, RepV.mergeInW, hw]
      refine ⟨?_, trivial⟩
      simp only [Bool.and_eq_true, Bool.not_eq_true'] at hw0
      obtain ⟨p, hp, hpk, hpg⟩ := thas_mem hw0.1 h'.srt
      obtain ⟨a1, a2, y, a3, a4, a5⟩ := h'.all p hp
      rw [hpg] at hw0
      unfold RepV.stay
      rw [hpg]
      split
      · rename_i hd
        simp only [Bool.and_eq_true] at hd
        have hag : q.agedV e p.2 = 0 := by unfold RepV.agedV; rw [hd.2, h'.t1]; simp
        refine h'.put hc (f := { p.2 with age := q.agedV e p.2 }) (checkE_age a2 (fun g => by rw [g] at hd; cases hd.1) (by rw [hag]; omega)) (by rw [← hpk, a1]) ⟨y, by simp [a3], a4, a5⟩ ?_ ?_ rfl h'.gr rfl rfl rfl
          ⟨h'.disk.on, h'.disk.left, by have := h'.disk.len; show q.d.b.length ≤ _; omega⟩
        · rw [← hw0.2]; exact newerB_ver rfl rfl rfl rfl rfl rfl rfl rfl
        · intro p' hp' hk'
          have : p' = p := SrtK.nodup kLt_ord h'.srt hp' hp (hk'.trans hpk.symm)
          subst this
          rw [← newerB_irr p'.2]; exact newerB_ver rfl rfl rfl rfl rfl rfl rfl rfl
      · exact h'.more fun _ => ⟨p, hp, hpk, hw0.2⟩
    · have hroom : q.roomB e.key = true := by
        unfold RepV.roomB; rw [h'.room]
        have := h'.len
        simp only [Bool.or_eq_true, decide_eq_true_eq]; right; omega
      have hw : q.way e = 4 := by
        unfold RepV.way
        rw [if_neg hw0, if_neg (by rw [h'.t1]; simp), if_neg (by rw [hroom]; simp), if_neg (by unfold RepV.overB; rw [h'.gr]; simp [thas, hasK])]
      simp only [RepV.mergeIn, RepV.mergeInW, hw]
      obtain ⟨f, hf⟩ : ∃ f, q.aged e (tget q.tab e.key) = f := ⟨_, rfl⟩
      have hfd : f = { e with age := q.agedV e (tget q.tab e.key) } := hf.symm
      have hag : q.agedV e (tget q.tab e.key) = 0 := by
        unfold RepV.agedV
        by_cases hd : e.dead = false
        · rw [if_pos hd]; exact checkE_live hc hd
        · rw [if_neg hd, if_pos h'.t1]
      have hfc : checkE f = 0 := by
        rw [hfd]; exact checkE_age hc (fun hd => by rw [hag, checkE_live hc hd]) (by rw [hag]; omega)
      have hfk : f.key = e.key := by rw [hfd]
      rw [hf]
      obtain ⟨l1, l2⟩ := checkE_len hfc
      obtain ⟨w1, w2⟩ := h'.disk.add l1 l2 (by omega)
      have hset : q.set f = (({ q with d := q.d.add (encE f) }.wrote f).buried f).placed f := by
        unfold RepV.set
        rw [if_neg (by rw [hfc]; simp), if_neg (by rw [w1]; simp), hfk, if_pos hroom]
      have hsetW : q.setW f = 0 := by
        unfold RepV.setW
        rw [if_neg (by rw [hfc]; simp), if_neg (by rw [w1]; simp), hfk, if_pos hroom]
      refine ⟨?_, hsetW⟩
      rw [hset]
      have hgr : buryT q.site q.t2 q.gr f = [] := by
        unfold buryT
        rw [if_pos, h'.gr]
        have : f.age = 0 := by rw [hfd]; exact hag
        rw [this, h'.t2]; simp
      have hwr : ∀ (q : RepV) (f : EnV), (q.wrote f).tab = q.tab ∧ (q.wrote f).gr = q.gr ∧ (q.wrote f).site = q.site ∧ (q.wrote f).t1 = q.t1 ∧ (q.wrote f).t2 = q.t2 ∧ (q.wrote f).room = q.room ∧ (q.wrote f).d = q.d := by
        intro q f; unfold RepV.wrote; split <;> exact ⟨rfl, rfl, rfl, rfl, rfl, rfl, rfl⟩
      obtain ⟨b1, b2, b3, b4, b5, b6, b7⟩ := hwr { q with d := q.d.add (encE f) } f
      refine h'.put hc hfc hfk ⟨e, by simp, hc, by rw [hfd]; exact alikeE_rfl e⟩ ?_ ?_ ?_ ?_ ?_ ?_ ?_ ?_
      · rw [← newerB_irr e, hfd]; exact newerB_ver rfl rfl rfl rfl rfl rfl rfl rfl
      · intro p hp hk
        have hh : thas q.tab e.key = true := hasK_iff.2 ⟨p, hp, hk⟩
        have hg : tget q.tab e.key = p.2 := by rw [← hk]; exact tget_mem h'.srt hp
        rw [hh, hg] at hw0
        simp only [Bool.true_and, Bool.not_eq_true', Bool.not_eq_false] at hw0
        cases hb : newerB p.2 f with
        | false => rfl
        | true =>
          have : newerB p.2 e = true := by rw [← hb, hfd]; exact newerB_ver rfl rfl rfl rfl rfl rfl rfl rfl
          have := newerB_trans this hw0
          rw [newerB_irr] at this; cases this
      · exact b4
      · show buryT ({ q with d := q.d.add (encE f) }.wrote f).site ({ q with d := q.d.add (encE f) }.wrote f).t2 ({ q with d := q.d.add (encE f) }.wrote f).gr f = []
        rw [b2, b3, b5]; exact hgr
      · exact b5
      · exact b6
      · show tput ({ q with d := q.d.add (encE f) }.wrote f).tab f.key f = _
        rw [b1, hfk]
      · show EasyD ({ q with d := q.d.add (encE f) }.wrote f).d _
        rw [b7]; exact w2
  · rw [if_pos hc, if_pos hc]
    exact ⟨h.more fun g => absurd g hc, rfl⟩

/-- Two replicas to which the same came have the same newest of each key, and as many. -/
theorem NInv.both {r q : RepV} {l m : List EnV} (h : NInv r l) (g : NInv q m) (hm : ∀ x, x ∈ l ↔ x ∈ m) {x : EnV} (hx : x ∈ l) (hc : checkE x = 0) :
    thas r.tab x.key = true ∧ thas q.tab x.key = true ∧ (tget r.tab x.key).sc = (tget q.tab x.key).sc ∧ (tget r.tab x.key).ss = (tget q.tab x.key).ss ∧ (tget r.tab x.key).ac = (tget q.tab x.key).ac ∧
    (tget r.tab x.key).az = (tget q.tab x.key).az ∧ newerB x (tget r.tab x.key) = false ∧ ∃ y ∈ l, checkE y = 0 ∧ alikeE y (tget r.tab x.key) := by
  obtain ⟨p, p1, p2, p3⟩ := h.new x hx hc
  obtain ⟨p', q1, q2, q3⟩ := g.new x ((hm x).1 hx) hc
  have e1 : tget r.tab x.key = p.2 := by rw [← p2]; exact tget_mem h.srt p1
  have e2 : tget q.tab x.key = p'.2 := by rw [← q2]; exact tget_mem g.srt q1
  obtain ⟨a1, a2, y, a3, a4, a5⟩ := h.all p p1
  obtain ⟨b1, b2, z, b3, b4, b5⟩ := g.all p' q1
  have hyk : y.key = x.key := by rw [a5.1, ← a1, p2]
  have hzk : z.key = x.key := by rw [b5.1, ← b1, q2]
  obtain ⟨p'', c1, c2, c3⟩ := g.new y ((hm y).1 a3) a4
  have hp'' : p'' = p' := SrtK.nodup kLt_ord g.srt c1 q1 (by rw [c2, hyk, q2])
  obtain ⟨p3', d1, d2, d3⟩ := h.new z ((hm z).2 b3) b4
  have hp3 : p3' = p := SrtK.nodup kLt_ord h.srt d1 p1 (by rw [d2, hzk, p2])
  subst hp''; subst hp3
  have n1 : newerB p3'.2 p''.2 = false := by rw [← c3]; exact newerB_ver a5.2.2.2.1.symm a5.2.2.2.2.1.symm a5.2.2.2.2.2.1.symm a5.2.2.2.2.2.2.1.symm rfl rfl rfl rfl
  have n2 : newerB p''.2 p3'.2 = false := by rw [← d3]; exact newerB_ver b5.2.2.2.1.symm b5.2.2.2.2.1.symm b5.2.2.2.2.2.1.symm b5.2.2.2.2.2.2.1.symm rfl rfl rfl rfl
  obtain ⟨s1, s2, s3, s4⟩ := newerB_same n1 n2
  rw [e1, e2]
  exact ⟨hasK_iff.2 ⟨_, p1, p2⟩, hasK_iff.2 ⟨_, q1, q2⟩, s1, s2, s3, s4, p3, y, a3, a4, a5⟩

theorem NInv.many {r q : RepV} {l m : List EnV} (h : NInv r l) (g : NInv q m) (hm : ∀ x, x ∈ l ↔ x ∈ m) : r.tab.length = q.tab.length := by
  have hk : ∀ {r q : RepV} {l m : List EnV}, NInv r l → NInv q m → (∀ x, x ∈ l ↔ x ∈ m) → ∀ k, k ∈ r.tab.map (·.1) → k ∈ q.tab.map (·.1) := by
    intro r q l m h g hm k hk
    obtain ⟨p, hp, rfl⟩ := List.mem_map.1 hk
    obtain ⟨a1, a2, y, a3, a4, a5⟩ := h.all p hp
    obtain ⟨p', c1, c2, _⟩ := g.new y ((hm y).1 a3) a4
    exact List.mem_map.2 ⟨p', c1, by rw [c2, a5.1, a1]⟩
  have hs : ∀ {t : List KE}, TSrt t → SrtK kLt id (t.map (·.1)) := fun ht => List.pairwise_map.2 ht
  have := srtK_ext kLt_ord (hs h.srt) (hs g.srt) fun k => ⟨hk h g hm k, hk g h (fun x => (hm x).symm) k⟩
  rw [← List.length_map (f := (·.1)), this, List.length_map]

theorem NInv.start (s : Int) : NInv (RepV.fresh 12 64 2 0 0 s DskV.new) [] :=
  ⟨rfl, rfl, rfl, rfl, List.Pairwise.nil, Nat.le_refl _, EasyD.new, fun _ h => absurd h (by simp [RepV.fresh]), fun _ h => absurd h (by simp)⟩

end Go.Proofs.YtojfjbbggpfijaaGreatDoor
