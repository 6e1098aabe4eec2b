/- The overlay: Leave. -/
import Derived.Test.YtbpdchaeakihkaaGreatTakeM
namespace Go.Proofs.YtbpdchaeakihkaaGreat
open Go.RowKit Go.Qd

def partO (O : OV) (p : Int) : OV := lowerO { O with L := O.L ++ [⟨p, kindM 6⟩] } p
def leaveAllO (O : OV) (A : List Int) : OV := A.foldl partO O
def leaveO (O : OV) : OV := leaveAllO O O.V.a
theorem leave_snoc (O : OV) {A : List Int} {i : Nat} (h : i < A.length) : leaveAllO O (A.take (i + 1)) = partO (leaveAllO O (A.take i)) A[i] := by
  unfold leaveAllO; rw [List.take_succ_eq_append_getElem h, List.foldl_append]; rfl
theorem part_ok {O : OV} (h : OOK O) (p : Int) : OOK (partO O p) := OOK.lower (O := { O with L := O.L ++ [⟨p, kindM 6⟩] }) ⟨h.v, h.cl, h.hl, h.r⟩ p
theorem part_len (O : OV) (p : Int) : (partO O p).L.length ≤ O.L.length + 1 ∧ (partO O p).C.length ≤ O.C.length + 1 := by
  unfold partO lowerO
  split <;> simp
theorem leaveAll_ok (A : List Int) : ∀ {O : OV} (_ : OOK O), OOK (leaveAllO O A) ∧ (leaveAllO O A).L.length ≤ O.L.length + A.length ∧ (leaveAllO O A).C.length ≤ O.C.length + A.length := by
  induction A with
  | nil => exact fun h => ⟨h, Nat.le_refl _, Nat.le_refl _⟩
  | cons p A ih =>
    intro O h
    have := ih (part_ok h p)
    have h2 := part_len O p
    exact ⟨this.1, by have := this.2.1; simp only [List.length_cons]; show (leaveAllO (partO O p) A).L.length ≤ _; omega, by have := this.2.2; simp only [List.length_cons]; show (leaveAllO (partO O p) A).C.length ≤ _; omega⟩

section
variable {W w : World} {R : List HP} {post : Ending → World → Prop} {b d : Nat} {O : OV}

set_option maxRecDepth 100000 in
set_option maxHeartbeats 4000000 in
theorem leave_c (st : St W w (OvA b d O :: R)) (h : OOK O) (hL : O.L.length ≤ 100) (hC : O.C.length ≤ 100)
    (K : ∀ la ln lc ca cn cc w', St W w' (OvA b d (freshO (leaveO O)) :: OwnS 13 la ln lc (letC (leaveO O).L) :: OwnS 2 ca cn cc (chC (leaveO O).C) :: sepL ((leaveO O).L.map LetV.own) :: R) →
      post (.returned (.tuple #[.slice la ln lc, .slice ca cn cc])) w') : Calls Tryz.prog 59 #[.pointer (some ⟨b, 0, none⟩)] w post := by
  have HK := hid K; clear K
  have HO := hid h
  have hna : O.V.a.length ≤ 11 := by have := h.v.la; have := h.v.am; omega
  obtain ⟨v, s⟩ := OvA.open st
  have k0 := row1c s
  obtain ⟨A, hA⟩ : ∃ A, O.V.a = A := ⟨_, rfl⟩
  have HA := hid hA
  obtain ⟨n, hn⟩ : ∃ n, A.length = n := ⟨_, rfl⟩
  have HNN := hid hn
  rw [hA, hn] at hna
  clear h hA hn
  go_enter Tryz.func59, Tryz.ntmps59
  go_wp2_with (go_at_call 16; refine active_c (St.pick 6 s) (by rw [HA.out, HNN.out]; omega) ?_; rintro a5 c5 w5 s5; rw [HA.out, HNN.out]; rw [HA.out, HNN.out] at s5)
  have s6 := OvA.close (O := O) (v := v) (s5.perm [2, 2, 2, 2, 2, 2, 1, 1])
  have s7 := St.pick 1 s6
  go_loopw [12] (fun ii wr => ∃ i : Nat, i ≤ n ∧ ii = .int .i64 i ∧ St W wr (OwnS 1 a5 n c5 (ivs A) :: OvA b d (leaveAllO O (A.take i)) :: R)) (fun ii _ => n - (intOf ii).toNat)
  case atStart => exact ⟨0, Nat.zero_le _, rfl, s7⟩
  case round =>
    obtain ⟨i, hi, rfl, sr⟩ := hrel
    by_cases hlt : i < n
    · have rd := OwnS.rd sr
      obtain ⟨g3, o3, rfl⟩ := rd.addr (by omega)
      have hiA : i < A.length := by rw [HNN.out]; exact hlt
      have ci := rd.at (ivs_get hiA)
      have hsn := leave_snoc O hiA
      have hS := leaveAll_ok (A.take i) HO.out
      have hlen : (A.take i).length = i := by simp; omega
      rw [hlen] at hS
      obtain ⟨q, hq⟩ : ∃ q, A[i] = q := ⟨_, rfl⟩
      rw [hq] at ci hsn
      obtain ⟨P, hP⟩ : ∃ P, leaveAllO O (A.take i) = P := ⟨_, rfl⟩
      rw [hP] at sr hS hsn
      have HS := hid hS; have HSN := hid hsn
      have hi2 : (i : Int) < (n : Int) := by omega
      obtain ⟨v2, t⟩ := OvA.open (St.pick 1 sr)
      clear hq hP hS hsn rd hlen
      go_wp2_with (first
        | (go_at_call 44; refine send_c (to := q) (m := kindM 6) ((OwnS.none0 (sz := 1) t).perm [2, 0]) (by have := HS.out.2.1; omega) ?_; rintro w8 s8; have s9 := OvA.close (O := { P with L := P.L ++ [⟨q, kindM 6⟩] }) (v := v2) (s8.perm [1]))
        | (go_at_call 48; refine olower_c (O := { P with L := P.L ++ [⟨q, kindM 6⟩] }) s9 ⟨HS.out.1.v, HS.out.1.cl, HS.out.1.hl, HS.out.1.r⟩ (by have := HS.out.2.2; show P.C.length ≤ 4000; omega) ?_; rintro wA sA))
      go_roundw
      case rel => exact ⟨i + 1, by omega, by go_num, by rw [HSN.out]; exact St.pick 1 sA⟩
      case measure => simp [intOf]; omega
    · have hie : i = n := by omega
      subst hie
      rw [List.take_of_length_le (by rw [HNN.out]; exact Nat.le_refl _)] at sr
      have u := St.drop sr
      go_wp2_with (go_at_call 45; refine told_c u ?_; rintro la ln lc ca cn cc w9 s9)
      rw [← HA.out] at s9
      exact HK.out _ _ _ _ _ _ _ s9
end

end Go.Proofs.YtbpdchaeakihkaaGreat
