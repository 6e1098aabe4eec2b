/- The overlay: Tick. -/
import Derived.Test.YtbpdchaeakihkaaGreatOverJ
namespace Go.Proofs.YtbpdchaeakihkaaGreat
open Go.RowKit Go.Qd

def countO (O : OV) (p : Int) : OV := { O with heard := O.heard.set p.toNat (O.heard.getD p.toNat 0 + 1) }
def stepS (O : OV) (p : Int) : OV := if O.cfg.getD 11 0 < (countO O p).heard.getD p.toNat 0 then lowerO (countO O p) p else countO O p
def silentO (O : OV) (A : List Int) : OV := A.foldl stepS O

theorem silent_snoc (O : OV) {A : List Int} {i : Nat} (h : i < A.length) : silentO O (A.take (i + 1)) = stepS (silentO O (A.take i)) A[i] := by
  unfold silentO; rw [List.take_succ_eq_append_getElem h, List.foldl_append]; rfl

/-- What is kept through the silent ones' loop. -/
structure SOK (O : OV) (m : Int) (k : Nat) : Prop where
  ok : OOK O
  hh : ∀ j : Nat, 0 ≤ O.heard.getD j 0 ∧ O.heard.getD j 0 ≤ m
  cl : O.C.length ≤ k
  ll : O.L = []

theorem SOK.count {O : OV} {m : Int} {k : Nat} (h : SOK O m k) (p : Int) : SOK (countO O p) (m + 1) k := by
  refine ⟨⟨h.ok.v, h.ok.cl, by show (O.heard.set _ _).length = 12; rw [List.length_set]; exact h.ok.hl, h.ok.r⟩, fun j => ?_, h.cl, h.ll⟩
  show 0 ≤ (O.heard.set p.toNat _).getD j 0 ∧ (O.heard.set p.toNat _).getD j 0 ≤ m + 1
  have h1 := h.hh j
  have h2 := h.hh p.toNat
  by_cases e : p.toNat = j
  · by_cases hl : j < O.heard.length
    · have : (O.heard.set p.toNat (O.heard.getD p.toNat 0 + 1)).getD j 0 = O.heard.getD p.toNat 0 + 1 := by subst e; simp [hl]
      rw [this]; omega
    · have : (O.heard.set p.toNat (O.heard.getD p.toNat 0 + 1)).getD j 0 = 0 := by simp [hl]
      rw [this]; omega
  · have : (O.heard.set p.toNat (O.heard.getD p.toNat 0 + 1)).getD j 0 = O.heard.getD j 0 := by simp [e]
    rw [this]; omega
theorem SOK.lower {O : OV} {m : Int} {k : Nat} (h : SOK O m k) (p : Int) : SOK (lowerO O p) m (k + 1) := by
  refine ⟨h.ok.lower p, ?_, ?_, ?_⟩
  · unfold lowerO; split <;> exact h.hh
  · unfold lowerO; split
    · show (O.C ++ [(p, false)]).length ≤ k + 1; have := h.cl; simp; omega
    · have := h.cl; omega
  · unfold lowerO; split <;> exact h.ll
theorem SOK.step {O : OV} {m : Int} {k : Nat} (h : SOK O m k) (p : Int) : SOK (stepS O p) (m + 1) (k + 1) := by
  unfold stepS; split
  · exact (h.count p).lower p
  · have := h.count p; exact ⟨this.ok, this.hh, by have := this.cl; omega, this.ll⟩
theorem SOK.silent {O : OV} {m : Int} {k : Nat} (h : SOK O m k) (A : List Int) : SOK (silentO O A) (m + A.length) (k + A.length) := by
  induction A generalizing O m k with
  | nil => simpa [silentO] using h
  | cons p A ih =>
    have := ih (h.step p)
    have e1 : m + 1 + (A.length : Int) = m + ((p :: A).length : Int) := by simp; omega
    have e2 : k + 1 + A.length = k + (p :: A).length := by simp; omega
    rw [e1, e2] at this
    exact this

section
variable {W w : World} {R : List HP} {post : Ending → World → Prop} {b d : Nat} {O : OV} {p : Int}

/-- The loop's round's regions: a neighbour's ticks are counted. -/
theorem heard_at {j : Nat} (hj : j < 12) (hl : O.heard.length = 12) (s : St W w (row b 24 (ivs O.heard) :: R)) :
    w.cell? ⟨b, 24 + j, none⟩ = some (.int .i64 (O.heard.getD j 0)) ∧ w.frozen? ⟨b, 24 + j, none⟩ = false ∧ ∀ z : Int, St W (w.setCell ⟨b, 24 + j, none⟩ (.int .i64 z)) (row b 24 (ivs (O.heard.set j z)) :: R) :=
  ⟨cfg_off s (by omega), s.rowFree (by rw [ivs_length]; omega), fun z => by
    have := s.rowSet (i := j) (by rw [ivs_length]; omega) (.int .i64 z)
    rwa [show (ivs O.heard).set j (.int .i64 z) = ivs (O.heard.set j z) from by simp [ivs, List.map_set]] at this⟩

/-- Behind the silent ones and the asking. -/
def tick1 (O : OV) : OV := askO (silentO { O with ticks := O.ticks + 1 } O.V.a)

theorem silent_keep (A : List Int) : ∀ O : OV, (silentO O A).since = O.since ∧ (silentO O A).ticks = O.ticks ∧ (silentO O A).cfg = O.cfg ∧ (silentO O A).asked = O.asked := by
  induction A with
  | nil => exact fun O => ⟨rfl, rfl, rfl, rfl⟩
  | cons p A ih =>
    intro O
    have h : (stepS O p).since = O.since ∧ (stepS O p).ticks = O.ticks ∧ (stepS O p).cfg = O.cfg ∧ (stepS O p).asked = O.asked := by
      unfold stepS lowerO countO
      split
      · split <;> exact ⟨rfl, rfl, rfl, rfl⟩
      · exact ⟨rfl, rfl, rfl, rfl⟩
    have := ih (stepS O p)
    exact ⟨this.1.trans h.1, this.2.1.trans h.2.1, this.2.2.1.trans h.2.2.1, this.2.2.2.trans h.2.2.2⟩
theorem ask_keep (O : OV) : (askO O).ticks = O.ticks ∧ (askO O).cfg = O.cfg ∧ (askO O).V = O.V ∧ (askO O).heard = O.heard ∧ (askO O).C = O.C ∧ (askO O).L.length ≤ O.L.length + 1 := by
  unfold askO
  split
  · exact ⟨rfl, rfl, rfl, rfl, rfl, Nat.le_succ _⟩
  · have e : (askO1 O).ticks = O.ticks ∧ (askO1 O).cfg = O.cfg ∧ (askO1 O).V = O.V ∧ (askO1 O).heard = O.heard ∧ (askO1 O).C = O.C ∧ (askO1 O).L = O.L := by
      unfold askO1; split <;> exact ⟨rfl, rfl, rfl, rfl, rfl, rfl⟩
    obtain ⟨e1, e2, e3, e4, e5, e6⟩ := e
    unfold askO2
    split
    · exact ⟨e1, e2, e3, e4, e5, by rw [e6]; exact Nat.le_succ _⟩
    · exact ⟨e1, e2, e3, e4, e5, by show ((askO1 O).L ++ [_]).length ≤ _; rw [List.length_append, e6]; exact Nat.le_refl _⟩

/-- Behind the beat, if there is one. -/
def beatO (T : OV) (pa : Option Addr) (pn pc : Nat) : OV := if T.V.a = [] then T else
  { T with D := (someF (T.cfg.getD 9 0).toNat (drawL T.D T.V.a.length) T.V.p).1, L := T.L ++ beatsL T.V.a ++ [⟨pickV T.D T.V.a, shuffleM T pa pn pc (someF (T.cfg.getD 9 0).toNat (drawL T.D T.V.a.length) T.V.p).2.1⟩] }
def tickR (O : OV) (pa : Option Addr) (pn pc : Nat) : OV := if (O.ticks + 1) % O.cfg.getD 10 0 = 0 then beatO (tick1 O) pa pn pc else tick1 O

set_option maxRecDepth 100000 in
set_option maxHeartbeats 4000000 in
theorem tick_c {post : Ending → World → Prop} (st : St W w (OvA b d O :: R)) (h : SOK O 1000000 0) (ht : 0 ≤ O.ticks ∧ O.ticks ≤ 1000000) (hs : 0 ≤ O.since ∧ O.since ≤ 4)
    (K : ∀ pa pn pc la ln lc ca cn cc w', St W w' (OvA b d (freshO (tickR O pa pn pc)) :: OwnS 13 la ln lc (letC (tickR O pa pn pc).L) :: OwnS 2 ca cn cc (chC (tickR O pa pn pc).C) :: sepL ((tickR O pa pn pc).L.map LetV.own) :: R) →
      post (.returned (.tuple #[.slice la ln lc, .slice ca cn cc])) w') :
    Calls Tryz.prog 18 #[.pointer (some ⟨b, 0, none⟩)] w post := by
  have HK := hid K; clear K
  have HH := hid h
  have hbt : 1 ≤ O.cfg.getD 10 0 := by have := fine_lo (rightB_iff.1 h.ok.r 10 (by decide)); simpa [leastF] using this
  have hbu : O.cfg.getD 10 0 ≤ 16 := by have := fine_hi (rightB_iff.1 h.ok.r 10 (by decide)); simpa [mostF] using this
  have hna : O.V.a.length ≤ 11 := by have := h.ok.v.la; have := h.ok.v.am; omega
  have HNO := hid h.ok.v.na
  obtain ⟨v, s⟩ := OvA.open st
  obtain ⟨g36, g37, g38, f36, f37, f38⟩ := row3c (St.pick 5 s)
  have hw : IntKind.i64.wrap (O.ticks + 1) = O.ticks + 1 := IntWalk.i64_in _ (by omega)
  have s1 := (St.pick 5 s).rowSet (i := 0) (by simp) (.int .i64 (O.ticks + 1))
  have s1' : St W (w.setCell ⟨b, 36, none⟩ (.int .i64 (O.ticks + 1))) (row b 36 [.int .i64 (O.ticks + 1), .int .i64 O.asked, .int .i64 O.since] :: row b 0 [.pointer (some ⟨v, 0, none⟩)] :: NewsA b 1 O.L O.C :: row b 3 (ivs O.cfg) :: row b 23 [.pointer (some ⟨d, 0, none⟩)] :: row b 24 (ivs O.heard) :: ViewsA v O.V :: DiceA d O.D :: R) := s1
  have k0 := row1c (St.pick 1 s1')
  obtain ⟨A, hA⟩ : ∃ A, O.V.a = A := ⟨_, rfl⟩
  have HA := hid hA
  obtain ⟨n, hn⟩ : ∃ n, A.length = n := ⟨_, rfl⟩
  have HNN := hid hn
  rw [hA, hn] at hna
  rw [hA] at HNO
  clear h hA hn s1
  go_enter Tryz.func18, Tryz.ntmps18
  go_wp2_with (go_at_call 16; refine active_c (St.pick 6 s1') (by rw [HA.out, HNN.out]; omega) ?_; rintro a5 c5 w5 s5; rw [HA.out, HNN.out]; rw [HA.out, HNN.out] at s5)
  have s6 := OvA.close (O := { O with ticks := O.ticks + 1 }) (v := v) (s5.perm [3, 3, 3, 3, 3, 2, 1, 1])
  have s7 := St.pick 1 s6
  go_loopw [19] (fun ii wr => ∃ i : Nat, i ≤ n ∧ ii = .int .i64 i ∧ St W wr (OwnS 1 a5 n c5 (ivs A) :: OvA b d (silentO { O with ticks := O.ticks + 1 } (A.take i)) :: R)) (fun ii _ => n - (intOf ii).toNat)
  case atStart => exact ⟨0, Nat.zero_le _, rfl, s7⟩
  case round =>
    obtain ⟨i, hi, rfl, sr⟩ := hrel
    by_cases hlt : i < n
    · have rd := OwnS.rd sr
      obtain ⟨g3, o3, rfl⟩ := rd.addr (by omega)
      have hiA : i < A.length := by rw [HNN.out]; exact hlt
      have ci := rd.at (ivs_get hiA)
      have hsn := silent_snoc { O with ticks := O.ticks + 1 } hiA
      have hqn := (HNO.out _ (List.getElem_mem hiA)).1
      have hS : SOK (silentO { O with ticks := O.ticks + 1 } (A.take i)) (1000000 + (A.take i).length) (0 + (A.take i).length) := SOK.silent (O := { O with ticks := O.ticks + 1 }) ⟨⟨HH.out.ok.v, HH.out.ok.cl, HH.out.ok.hl, HH.out.ok.r⟩, HH.out.hh, HH.out.cl, HH.out.ll⟩ _
      obtain ⟨q, hq⟩ : ∃ q, A[i] = q := ⟨_, rfl⟩
      rw [hq] at ci hsn hqn
      obtain ⟨q0, q1⟩ := nodeB_iff.1 hqn
      obtain ⟨j, rfl⟩ := Int.eq_ofNat_of_zero_le q0
      have hj : j < 12 := by omega
      have hj2 : (j : Int) < 12 := by omega
      obtain ⟨P, hP⟩ : ∃ P, silentO { O with ticks := O.ticks + 1 } (A.take i) = P := ⟨_, rfl⟩
      rw [hP] at sr hS hsn
      have hlen : (A.take i).length = i := by simp; omega
      rw [hlen] at hS
      have HS := hid hS
      have HSN := hid hsn
      obtain ⟨v2, t⟩ := OvA.open (St.pick 1 sr)
      obtain ⟨z, hz⟩ : ∃ z, P.heard.getD j 0 = z := ⟨_, rfl⟩
      have hzb := hS.hh j
      rw [hz] at hzb
      obtain ⟨c1, c2, c3⟩ := heard_at (O := P) hj hS.ok.hl (St.pick 4 t).drew
      rw [hz] at c1
      have hw2 : IntKind.i64.wrap (z + 1) = z + 1 := IntWalk.i64_in _ (by omega)
      have hi2 : (i : Int) < (n : Int) := by omega
      have HZ := hid hz
      clear hq hqn hP hS hsn rd hz hlen
      go_wp2_with fail
      go_still_tail 10, (by kernel_rfl)
      change wpList _ _ _ _ _ wr.drew
      have u := c3 (z + 1)
      have hl12 := HS.out.ok.hl
      have hcl := HS.out.ok.cl
      obtain ⟨sil, hsil⟩ : ∃ sil, P.cfg.getD 11 0 = sil := ⟨_, rfl⟩
      have d1 := cfg_off u (i := j) (by rw [List.length_set, hl12]; exact hj)
      have d1' : (wr.drew.setCell ⟨b, 24 + j, none⟩ (.int .i64 (z + 1))).cell? ⟨b, 24 + j, none⟩ = some (.int .i64 (z + 1)) := by rw [d1]; simp [hl12, hj]
      have d2 := cfg_off (St.pick 3 u) (i := 11) (by rw [hcl]; omega)
      rw [hsil] at d2
      have d2' : (wr.drew.setCell ⟨b, 24 + j, none⟩ (.int .i64 (z + 1))).cell? ⟨b, 14, none⟩ = some (.int .i64 sil) := d2
      have ec : countO P j = { P with heard := P.heard.set j (z + 1) } := by unfold countO; rw [show ((j : Int)).toNat = j from rfl, HZ.out]
      have eh : (countO P j).heard.getD ((j : Int)).toNat 0 = z + 1 := by rw [ec, show ((j : Int)).toNat = j from rfl]; simp [hl12, hj]
      have s9 := OvA.close (O := { P with heard := P.heard.set j (z + 1) }) (v := v2) (u.perm [1, 1, 1, 1, 0, 0, 0, 0])
      rw [← ec] at s9
      have estep : stepS P j = if sil < z + 1 then lowerO (countO P j) j else countO P j := by unfold stepS; rw [eh, hsil]
      have HE := hid estep
      have HOK2 := hid (HS.out.count j).ok
      have hC4 : (countO P j).C.length ≤ 4000 := by have := (HS.out.count j).cl; omega
      clear d1 d2 ec eh estep hsil u c3 hl12 hcl t
      generalize hW : wr.drew = wd at c1 c2 d1' d2' s9 ⊢
      clear hW
      go_wp2_with fail
      generalize wd.setCell ⟨b, 24 + j, none⟩ (.int .i64 (z + 1)) = w9 at d1' d2' s9 ⊢
      go_quiet (fail)
      have sA := s9.drewN nq
      generalize w9.drewN nq = wA at sA ⊢
      by_cases hsl : sil < z + 1
      · go_wp2_with (go_at_call 48; refine olower_c sA HOK2.out hC4 ?_; rintro wB sB)
        go_roundw
        case rel => exact ⟨i + 1, by omega, by go_num, by rw [HSN.out, HE.out, if_pos hsl]; exact St.pick 1 sB⟩
        case measure => simp [intOf]; omega
      · go_wp2_with fail
        go_roundw
        case rel => exact ⟨i + 1, by omega, by go_num, by rw [HSN.out, HE.out, if_neg hsl]; exact St.pick 1 sA⟩
        case measure => simp [intOf]; omega
    · have hie : i = n := by omega
      subst hie
      rw [List.take_of_length_le (by rw [HNN.out]; exact Nat.le_refl _)] at sr
      have hS : SOK (silentO { O with ticks := O.ticks + 1 } A) (1000000 + A.length) (0 + A.length) := SOK.silent (O := { O with ticks := O.ticks + 1 }) ⟨⟨HH.out.ok.v, HH.out.ok.cl, HH.out.ok.hl, HH.out.ok.r⟩, HH.out.hh, HH.out.cl, HH.out.ll⟩ _
      obtain ⟨m1, m2, m3, m4⟩ := silent_keep A { O with ticks := O.ticks + 1 }
      have eT : tick1 O = askO (silentO { O with ticks := O.ticks + 1 } A) := by unfold tick1; rw [HA.out]
      obtain ⟨P, hP⟩ : ∃ P, silentO { O with ticks := O.ticks + 1 } A = P := ⟨_, rfl⟩
      rw [hP] at sr hS m1 m2 m3 m4 eT
      obtain ⟨n1, n2, n3, n4, n5, n6⟩ := ask_keep P
      obtain ⟨T, hT⟩ : ∃ T, askO P = T := ⟨_, rfl⟩
      rw [hT] at n1 n2 n3 n4 n5 n6 eT
      have hTO : OOK T := ⟨by rw [n3]; exact hS.ok.v, by rw [n2]; exact hS.ok.cl, by rw [n4]; exact hS.ok.hl, by rw [n2]; exact hS.ok.r⟩
      have hTL : T.L.length ≤ 4000 := by rw [hS.ll] at n6; simp at n6; omega
      have hTt : T.ticks = O.ticks + 1 := n1.trans m2
      have hTc : T.cfg = O.cfg := n2.trans m3
      have HTO := hid hTO; have HTL := hid hTL; have HTT := hid hTt; have HTC := hid hTc; have HET := hid eT; have HTE := hid hT; have HPS := hid hS; have HM1 := hid m1
      clear hP hS m1 m2 m3 m4 eT n1 n2 n3 n4 n5 n6 hTO hTL hTt hTc hT
      go_wp2_with (go_at_call 49; refine ask_c sr.drop HPS.out.ok (by rw [HM1.out]; exact hs) (by rw [HPS.out.ll]; exact Nat.zero_le _) ?_; rintro w6 s6; rw [HTE.out] at s6; obtain ⟨v6, t6⟩ := OvA.open s6; obtain ⟨r36, _, _, _, _, _⟩ := row3c (St.pick 5 t6); rw [HTT.out] at r36
                   have rb0 := cfg_off (St.pick 2 t6) (i := 10) (by rw [HTC.out, HH.out.ok.cl]; omega); rw [HTC.out] at rb0)
      have rb : w6.cell? ⟨b, 13, none⟩ = some (.int .i64 (O.cfg.getD 10 0)) := rb0
      clear rb0
      obtain ⟨bt, hbe⟩ : ∃ bt, O.cfg.getD 10 0 = bt := ⟨_, rfl⟩
      rw [hbe] at rb hbt hbu
      have HBE := hid hbe
      clear hbe
      obtain ⟨tk, htk⟩ : ∃ tk, O.ticks + 1 = tk := ⟨_, rfl⟩
      have htk0 : 0 ≤ tk ∧ tk ≤ 1000001 := by omega
      have HTK := hid htk
      rw [htk] at r36
      have hne : bt ≠ 0 := by omega
      have htm : tk.tmod bt = tk % bt := Int.tmod_eq_emod_of_nonneg htk0.1
      have hlo : 0 ≤ tk % bt := Int.emod_nonneg _ hne
      have hup : tk % bt < bt := Int.emod_lt_of_pos _ (by omega)
      have hwm : IntKind.i64.wrap (tk % bt) = tk % bt := IntWalk.i64_in _ (by omega)
      have hnb : (bt == 0) = false := by simpa using hne
      go_quiet (fail)
      have s7 := s6.drewN nq
      generalize w6.drewN nq = w7 at s7 ⊢
      by_cases hz : tk % bt = 0
      · have hzb : (tk % bt == 0) = true := by simp [hz]
        have HZ := hid hz
        clear hz
        go_wp2_with (first
          | (go_at_call 50; refine beat_c s7 HTO.out HTL.out (fun h0 w8 s8 => ?_) (fun h1 pa pn pc w8 s8 => ?_))
          | (go_at_call 45; refine told_c s8 ?_; rintro la ln lc ca cn cc w9 s9))
        · have e : tickR O none 0 0 = T := by unfold tickR; rw [HTK.out, HBE.out, if_pos HZ.out, HET.out]; unfold beatO; rw [if_pos h0]
          exact HK.out none 0 0 _ _ _ _ _ _ _ (by rw [e]; exact s9)
        · have e : tickR O pa pn pc = { T with D := (someF (T.cfg.getD 9 0).toNat (drawL T.D T.V.a.length) T.V.p).1, L := T.L ++ beatsL T.V.a ++ [⟨pickV T.D T.V.a, shuffleM T pa pn pc (someF (T.cfg.getD 9 0).toNat (drawL T.D T.V.a.length) T.V.p).2.1⟩] } := by
            unfold tickR; rw [HTK.out, HBE.out, if_pos HZ.out, HET.out]; unfold beatO; rw [if_neg h1]
          exact HK.out pa pn pc _ _ _ _ _ _ _ (by rw [e]; exact s9)
      · have hzb : (tk % bt == 0) = false := by simp [hz]
        have HZ := hid hz
        clear hz
        go_wp2_with (go_at_call 45; refine told_c s7 ?_; rintro la ln lc ca cn cc w9 s9)
        have e : tickR O none 0 0 = T := by unfold tickR; rw [HTK.out, HBE.out, if_neg HZ.out, HET.out]
        exact HK.out none 0 0 _ _ _ _ _ _ _ (by rw [e]; exact s9)

end

end Go.Proofs.YtbpdchaeakihkaaGreat
