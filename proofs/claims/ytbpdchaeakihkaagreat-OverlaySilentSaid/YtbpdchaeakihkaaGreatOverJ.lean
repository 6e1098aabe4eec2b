/- The overlay: beat. -/
import Derived.Test.YtbpdchaeakihkaaGreatOverI
namespace Go.Proofs.YtbpdchaeakihkaaGreat
open Go.RowKit Go.Qd

def beatsL (l : List Int) : List LetV := l.map fun p => ⟨p, kindM 9⟩
/-- The message that names. -/
def shuffleM (O : OV) (pa : Option Addr) (pn pc : Nat) (ps : List Int) : MsgV := { kindM 7 with peer := O.V.self, hops := O.cfg.getD 7 0, pa := pa, pn := pn, pc := pc, ps := ps }

section
variable {W w : World} {R : List HP} {post : Ending → World → Prop} {b d : Nat} {O : OV} {p : Int}

theorem beats_snoc {l : List Int} {i : Nat} (h : i < l.length) : beatsL (l.take (i + 1)) = beatsL (l.take i) ++ [⟨l[i], kindM 9⟩] := by
  unfold beatsL; rw [List.take_succ_eq_append_getElem h, List.map_append]; rfl

theorem cfg2 {c : List Int} (hc : c.length = 20) (s : St W w (row b 3 (ivs c) :: R)) : w.cell? ⟨b, 10, none⟩ = some (.int .i64 (c.getD 7 0)) ∧ w.cell? ⟨b, 12, none⟩ = some (.int .i64 (c.getD 9 0)) :=
  ⟨cfg_off (i := 7) s (by rw [hc]; omega), cfg_off (i := 9) s (by rw [hc]; omega)⟩

set_option maxRecDepth 100000 in
set_option maxHeartbeats 4000000 in
theorem beat_c (st : St W w (OvA b d O :: R)) (h : OOK O) (hL : O.L.length ≤ 4000)
    (K0 : O.V.a = [] → ∀ w', St W w' (OvA b d O :: R) → post (.returned (.tuple #[])) w')
    (K : O.V.a ≠ [] → ∀ pa pn pc w', St W w' (OvA b d { O with D := (someF (O.cfg.getD 9 0).toNat (drawL O.D O.V.a.length) O.V.p).1, L := O.L ++ beatsL O.V.a ++ [⟨pickV O.D O.V.a, shuffleM O pa pn pc (someF (O.cfg.getD 9 0).toNat (drawL O.D O.V.a.length) O.V.p).2.1⟩] } :: R) →
      post (.returned (.tuple #[])) w') :
    Calls Tryz.prog 50 #[.pointer (some ⟨b, 0, none⟩)] w post := by
  have HK := hid K; clear K
  have HK0 := hid K0; clear K0
  have HN := hid (show O.V.a.length ≤ 4096 from Nat.le_trans h.v.na4 (by decide))
  have hna : O.V.a.length ≤ 11 := by have := h.v.la; have := h.v.am; omega
  have HPL := hid (show O.V.p.length ≤ 11 by have := h.v.lp; have := h.v.pm; omega)
  have HC := hid h.cl
  obtain ⟨v, s⟩ := OvA.open st
  have k0 := row1c s
  obtain ⟨A, hA⟩ : ∃ A, O.V.a = A := ⟨_, rfl⟩
  have HA := hid hA
  rw [hA] at hna HK HK0
  obtain ⟨n, hn⟩ : ∃ n, A.length = n := ⟨_, rfl⟩
  have HNN := hid hn
  rw [hn] at hna
  clear h hA hn
  go_enter Tryz.func50, Tryz.ntmps50
  go_wp2_with (go_at_call 16; refine active_c (St.pick 6 s) HN.out ?_; rintro a5 c5 w5 s5; rw [HA.out, HNN.out]; rw [HA.out, HNN.out] at s5)
  go_loopw [14] (fun ii wr => ∃ i : Nat, i ≤ n ∧ ii = .int .i64 i ∧ St W wr (OwnS 1 a5 n c5 (ivs A) :: ViewsA v O.V :: row b 0 [.pointer (some ⟨v, 0, none⟩)] :: NewsA b 1 (O.L ++ beatsL (A.take i)) O.C :: row b 3 (ivs O.cfg) :: row b 23 [.pointer (some ⟨d, 0, none⟩)] :: row b 24 (ivs O.heard) :: row b 36 [.int .i64 O.ticks, .int .i64 O.asked, .int .i64 O.since] :: DiceA d O.D :: R)) (fun ii _ => n - (intOf ii).toNat)
  case atStart => exact ⟨0, Nat.zero_le _, rfl, by rw [List.take_zero, show beatsL [] = [] from rfl, List.append_nil]; exact s5⟩
  case round =>
    obtain ⟨i, hi, rfl, sr⟩ := hrel
    by_cases hlt : i < n
    · have rd := OwnS.rd sr
      obtain ⟨g3, o3, rfl⟩ := rd.addr (by omega)
      have hiA : i < A.length := by rw [HNN.out]; exact hlt
      have ci := rd.at (ivs_get hiA)
      have hsn := beats_snoc hiA
      obtain ⟨q, hq⟩ : ∃ q, A[i] = q := ⟨_, rfl⟩
      rw [hq] at ci hsn
      have HS := hid hsn
      have hbl : (O.L ++ beatsL (A.take i)).length ≤ 4096 := by rw [List.length_append]; simp [beatsL]; omega
      clear hq hsn rd
      have hi2 : (i : Int) < (n : Int) := by omega
      go_wp2_with (go_at_call 44; refine send_c (to := q) (m := kindM 9) ((OwnS.none0 (sz := 1) sr).perm [4, 0]) hbl ?_; rintro w6 s6)
      go_roundw
      case rel => exact ⟨i + 1, by omega, by go_num, by rw [HS.out, ← List.append_assoc]; exact s6.perm [1, 1, 1, 0]⟩
      case measure => simp [intOf]; omega
    · have hie : i = n := by omega
      subst hie
      rw [List.take_of_length_le (by rw [HNN.out]; exact Nat.le_refl _)] at sr
      have k5 := row1c (St.pick 5 sr)
      have k6 := row1c (St.pick 2 sr)
      cases A with
      | nil =>
        go_wp2_with (go_at_call 90; refine pick_c (zs := []) (St.pick 8 sr) (fun w' s => OwnS.rd s) ?_; rintro w7 s7; rw [if_pos rfl] at s7; rw [if_pos rfl])
        go_end0
        rw [show beatsL [] = [] from rfl, List.append_nil] at s7
        have t := OvA.close (O := O) (v := v) (s7.perm [3, 3, 3, 3, 3, 3, 2, 0])
        exact HK0.out trivial _ (St.drop (St.pick 1 t))
      | cons q A' =>
        have hqn : ¬ (q :: A' = []) := List.cons_ne_nil _ _
        have HQN := hid hqn
        clear hqn
        obtain ⟨pv, hpv⟩ : ∃ pv, pickV O.D (q :: A') = pv := ⟨_, rfl⟩
        rw [hpv] at HK
        have HPV := hid hpv
        clear hpv
        go_wp2_with (go_at_call 90; refine pick_c (zs := q :: A') (St.pick 8 sr) (fun w' s => OwnS.rd s) ?_; rintro w7 s7; rw [if_neg HQN.out] at s7; rw [if_neg HQN.out, HPV.out])
        have u := s7.drew
        obtain ⟨hp, hhp⟩ : ∃ hp, O.cfg.getD 7 0 = hp := ⟨_, rfl⟩
        have HHP := hid hhp
        obtain ⟨kk, hkk⟩ : ∃ kk, O.cfg.getD 9 0 = kk := ⟨_, rfl⟩
        have HKK := hid hkk
        rw [hkk] at HK
        simp only [shuffleM, hhp] at HK
        clear hhp hkk
        have f := fun (w' : World) (R1 R2 R3 : List HP) (s1 : St W w' (row b 0 [.pointer (some ⟨v, 0, none⟩)] :: R1)) (s2 : St W w' (row b 23 [.pointer (some ⟨d, 0, none⟩)] :: R2)) (s3 : St W w' (row b 3 (ivs O.cfg) :: R3)) =>
          show w'.cell? ⟨b, 0, none⟩ = some (.pointer (some ⟨v, 0, none⟩)) ∧ w'.cell? ⟨b, 23, none⟩ = some (.pointer (some ⟨d, 0, none⟩)) ∧ w'.cell? ⟨b, 10, none⟩ = some (.int .i64 hp) ∧ w'.cell? ⟨b, 12, none⟩ = some (.int .i64 kk) from
            ⟨row1c s1, row1c s2, by have := (cfg2 HC.out s3).1; rwa [HHP.out] at this, by have := (cfg2 HC.out s3).2; rwa [HKK.out] at this⟩
        have FF := hid f
        have gA := f _ _ _ _ (St.pick 3 u) (St.pick 6 u) (St.pick 5 u)
        have hpb : O.V.p.length * 8 ≤ 140737488355328 - 8 := by have := HPL.out; omega
        have hpc : O.V.p.length ≤ 4096 := by have := HPL.out; omega
        have hLL : (O.L ++ beatsL (q :: A')).length ≤ 4096 := by rw [List.length_append]; have := HNN.out; simp only [beatsL, List.length_map]; omega
        have HB := hid (And.intro hpb (And.intro hpc hLL))
        clear f hpb hpc hLL k5 k6
        go_region_held3 (fun w' => w'.cell? ⟨b, 0, none⟩ = some (.pointer (some ⟨v, 0, none⟩)) ∧ w'.cell? ⟨b, 23, none⟩ = some (.pointer (some ⟨d, 0, none⟩)) ∧ w'.cell? ⟨b, 10, none⟩ = some (.int .i64 hp) ∧ w'.cell? ⟨b, 12, none⟩ = some (.int .i64 kk))
          (first
            | with_reducible exact gD
            | with_reducible exact gC
            | with_reducible exact gB
            | with_reducible exact gA)
          (first
            | (go_at_call 84; refine oself_c (St.pick 2 u) ?_)
            | (go_at_call 21; refine passive_c (St.pick 2 u) HB.out.2.1 ?_; rintro a8 c8 w8 s8; have gB := FF.out _ _ _ _ (St.pick 4 s8) (St.pick 7 s8) (St.pick 6 s8))
            | (go_at_call 92; refine some_c (St.pick 2 s8) (OwnS.rd s8) HB.out.1 ?_; rintro a9 n9 c9 w9 s9; have gC := FF.out _ _ _ _ (St.pick 5 s9) (St.pick 8 s9) (St.pick 7 s9))
            | (go_at_call 44; refine send_c (to := pv) (m := { kindM 7 with peer := O.V.self, hops := hp, pa := a9, pn := n9, pc := c9, ps := (someF kk.toNat (drawL O.D (q :: A').length) O.V.p).2.1 }) (s9.perm [6, 0]) HB.out.2.2 ?_; rintro wA sA; have gD := FF.out _ _ _ _ (St.pick 5 sA) (St.pick 7 sA) (St.pick 6 sA)))
        all_goals
          go_wp2_with fail
          go_end0
          have t := OvA.close (O := { O with D := (someF kk.toNat (drawL O.D (q :: A').length) O.V.p).1, L := O.L ++ beatsL (q :: A') ++ [⟨pv, { kindM 7 with peer := O.V.self, hops := hp, pa := a9, pn := n9, pc := c9, ps := (someF kk.toNat (drawL O.D (q :: A').length) O.V.p).2.1 }⟩] }) (v := v) (sA.perm [5, 0, 4, 4, 4, 4, 2, 0])
          exact HK.out (by first | trivial | exact List.cons_ne_nil _ _) a9 n9 c9 _ (St.drop (St.pick 1 (St.drop (St.pick 1 t))))

end

end Go.Proofs.YtbpdchaeakihkaaGreat
