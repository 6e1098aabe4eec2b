/- The overlay: answer, neighbor, learn. -/
import Derived.Test.YtbpdchaeakihkaaGreatTakeD
namespace Go.Proofs.YtbpdchaeakihkaaGreat
open Go.RowKit Go.Qd

def answerO (O : OV) (p : Int) (yes : Bool) : OV := if O.asked = p then (if yes = true then raiseO { O with asked := -1 } p else { O with asked := -1 }) else O
def fullB (O : OV) : Bool := decide (O.V.am ≤ (O.V.a.length : Int))
def neighborO (O : OV) (p : Int) (high : Bool) : OV :=
  if (!high && !memB O.V.a p && fullB O) = true then { O with L := O.L ++ [⟨p, kindM 5⟩] } else { raiseO O p with L := (raiseO O p).L ++ [⟨p, kindM 4⟩] }
def learnAllO (O : OV) (l : List Int) : OV := l.foldl learnO O
theorem learnAll_snoc (O : OV) {l : List Int} {i : Nat} (h : i < l.length) : learnAllO O (l.take (i + 1)) = learnO (learnAllO O (l.take i)) l[i] := by
  unfold learnAllO; rw [List.take_succ_eq_append_getElem h, List.foldl_append]; rfl
theorem OOK.asked {O : OV} (h : OOK O) (x : Int) : OOK { O with asked := x } := ⟨h.v, h.cl, h.hl, h.r⟩
theorem OOK.learnAll {O : OV} (h : OOK O) (l : List Int) : OOK (learnAllO O l) := by
  induction l generalizing O with
  | nil => exact h
  | cons x l ih => exact ih (h.learn x)
theorem OOK.news {O : OV} (h : OOK O) (L : List LetV) (C : List (Int × Bool)) : OOK { O with L := L, C := C } := ⟨h.v, h.cl, h.hl, h.r⟩

section
variable {W w : World} {R : List HP} {post : Ending → World → Prop} {b d : Nat} {O : OV} {m : MsgV} {p : Int}

set_option maxRecDepth 100000 in
set_option maxHeartbeats 4000000 in
theorem answer_c {yes : Bool} (st : St W w (OvA b d O :: R)) (h : OOK O) (hL : O.L.length ≤ 4000) (hC : O.C.length ≤ 4000) (K : ∀ w', St W w' (OvA b d (answerO O p yes) :: R) → post (.returned (.tuple #[])) w') :
    Calls Tryz.prog 55 #[.pointer (some ⟨b, 0, none⟩), .int .i64 p, .bool yes] w post := by
  obtain ⟨v, s⟩ := OvA.open st
  obtain ⟨g36, g37, g38, f36, f37, f38⟩ := row3c (St.pick 5 s)
  unfold answerO at K
  obtain ⟨q, hq⟩ : ∃ q, O.asked = q := ⟨_, rfl⟩
  rw [hq] at g37 K
  by_cases hqp : q = p
  · rw [if_pos hqp] at K
    have HK := hid K; clear K
    have hb : (q != p) = false := by simp [hqp]
    have s1 := (St.pick 5 s).rowSet (i := 1) (by simp) (.int .i64 (-1))
    have s1' : St W (w.setCell ⟨b, 37, none⟩ (.int .i64 (-1))) (row b 36 [.int .i64 O.ticks, .int .i64 (-1), .int .i64 O.since] :: row b 0 [.pointer (some ⟨v, 0, none⟩)] :: NewsA b 1 O.L O.C :: row b 3 (ivs O.cfg) :: row b 23 [.pointer (some ⟨d, 0, none⟩)] :: row b 24 (ivs O.heard) :: ViewsA v O.V :: DiceA d O.D :: R) := s1
    have s2 := OvA.close (O := { O with asked := -1 }) (v := v) (s1'.perm [1, 1, 1, 1, 1, 0, 0, 0])
    have HO := hid (h.asked (-1))
    clear hq hqp h s1 s1'
    cases yes with
    | true =>
      simp only [if_true] at HK
      go_enter Tryz.func55, Tryz.ntmps55
      go_wp2_with (go_at_call 43; refine oraise_c s2 HO.out hL hC ?_; rintro w3 s3)
      go_end0
      exact HK.out _ s3
    | false =>
      simp only [Bool.false_eq_true, if_false] at HK
      go_enter Tryz.func55, Tryz.ntmps55
      go_wp2_with fail
      go_end0
      exact HK.out _ s2
  · rw [if_neg hqp] at K
    have HK := hid K; clear K
    have hb : (q != p) = true := by simpa using hqp
    clear hq hqp h
    go_enter Tryz.func55, Tryz.ntmps55
    go_wp2_with fail
    go_end0
    exact HK.out _ st

set_option maxRecDepth 100000 in
set_option maxHeartbeats 4000000 in
theorem neighbor_c {high : Bool} (st : St W w (OvA b d O :: R)) (h : OOK O) (hL : O.L.length ≤ 1000) (hC : O.C.length ≤ 1000) (K : ∀ w', St W w' (OvA b d (neighborO O p high) :: R) → post (.returned (.tuple #[])) w') :
    Calls Tryz.prog 54 #[.pointer (some ⟨b, 0, none⟩), .int .i64 p, .bool high] w post := by
  obtain ⟨v, s⟩ := OvA.open st
  have g0 := row1c s
  have HO := hid h
  have HL2 : Hid ((raiseO O p).L.length ≤ 4000) := hid (by have := raiseO_len O p; omega)
  unfold neighborO at K
  obtain ⟨z, hz⟩ : ∃ z, memB O.V.a p = z := ⟨_, rfl⟩
  obtain ⟨f, hf⟩ : ∃ f, fullB O = f := ⟨_, rfl⟩
  have HZ := hid hz; have HF := hid hf
  rw [hz, hf] at K
  have HK := hid K
  clear hz hf K h
  cases high with
  | true =>
    simp only [Bool.not_true, Bool.false_and, Bool.false_eq_true, if_false] at HK
    go_enter Tryz.func54, Tryz.ntmps54
    go_wp2_with (first
      | (go_at_call 43; refine oraise_c st HO.out (by omega) (by omega) ?_; rintro w1 s1; obtain ⟨v1, s2⟩ := OvA.open s1)
      | (go_at_call 44; refine send_c (m := kindM 4) ((OwnS.none0 (sz := 1) s2).perm [2, 0]) (by have := HL2.out; omega) ?_; rintro w3 s3; have s4 := OvA.close (O := { raiseO O p with L := (raiseO O p).L ++ [⟨p, kindM 4⟩] }) (s3.perm [1])))
    go_end0
    exact HK.out _ s4
  | false =>
    cases z with
    | true =>
      simp only [Bool.not_true, Bool.not_false, Bool.true_and, Bool.false_and, Bool.false_eq_true, if_false] at HK
      go_enter Tryz.func54, Tryz.ntmps54
      go_wp2_with (first
        | (go_at_call 46; refine isActive_c (St.pick 6 s) ?_; rw [HZ.out])
        | (go_at_call 43; refine oraise_c st HO.out (by omega) (by omega) ?_; rintro w1 s1; obtain ⟨v1, s2⟩ := OvA.open s1)
        | (go_at_call 44; refine send_c (m := kindM 4) ((OwnS.none0 (sz := 1) s2).perm [2, 0]) (by have := HL2.out; omega) ?_; rintro w3 s3; have s4 := OvA.close (O := { raiseO O p with L := (raiseO O p).L ++ [⟨p, kindM 4⟩] }) (s3.perm [1])))
      go_end0
      exact HK.out _ s4
    | false =>
      simp only [Bool.not_false, Bool.true_and] at HK
      cases f with
      | true =>
        simp only [if_true] at HK
        go_enter Tryz.func54, Tryz.ntmps54
        go_wp2_with (first
          | (go_at_call 46; refine isActive_c (St.pick 6 s) ?_; rw [HZ.out])
          | (go_at_call 100; refine vfull_c (St.pick 6 s) ?_; rintro w1 s1; rw [show decide (O.V.am ≤ (O.V.a.length : Int)) = true from HF.out])
          | (go_at_call 44; refine send_c (m := kindM 5) ((OwnS.none0 (sz := 1) s1).perm [3, 0]) (by omega) ?_; rintro w3 s3; have s4 := OvA.close (O := { O with L := O.L ++ [⟨p, kindM 5⟩] }) (s3.perm [2, 0, 1, 1, 1, 1])))
        go_end0
        exact HK.out _ s4
      | false =>
        simp only [Bool.false_eq_true, if_false] at HK
        go_enter Tryz.func54, Tryz.ntmps54
        go_wp2_with (first
          | (go_at_call 46; refine isActive_c (St.pick 6 s) ?_; rw [HZ.out])
          | (go_at_call 100; refine vfull_c (St.pick 6 s) ?_; rintro w1 s1; rw [show decide (O.V.am ≤ (O.V.a.length : Int)) = false from HF.out]; have t := OvA.close (O := O) (v := v) (s1.perm [1, 1, 1, 1, 1, 1, 0, 0]))
          | (go_at_call 43; refine oraise_c t HO.out (by omega) (by omega) ?_; rintro w2 t1; obtain ⟨v1, s2⟩ := OvA.open t1)
          | (go_at_call 44; refine send_c (m := kindM 4) ((OwnS.none0 (sz := 1) s2).perm [2, 0]) (by have := HL2.out; omega) ?_; rintro w3 s3; have s4 := OvA.close (O := { raiseO O p with L := (raiseO O p).L ++ [⟨p, kindM 4⟩] }) (s3.perm [1])))
        go_end0
        exact HK.out _ s4

set_option maxRecDepth 100000 in
set_option maxHeartbeats 4000000 in
theorem learnAll_c {la : Option Addr} {ln lc : Nat} {l : List Int} (st : St W w (OvA b d O :: R)) (h : OOK O) (hr : Rds W R 1 la ln lc (ivs l)) (hn : ln ≤ 4096)
    (K : ∀ w', St W w' (OvA b d (learnAllO O l) :: R) → post (.returned (.tuple #[])) w') : Calls Tryz.prog 57 #[.pointer (some ⟨b, 0, none⟩), .slice la ln lc] w post := by
  have HK := hid K; clear K
  have HO := hid h
  have HRD := hid hr
  have HN : Hid (l.length = ln) := hid (ivs_len (hr _ st.drop))
  clear h hr
  go_enter Tryz.func57, Tryz.ntmps57
  go_wp2_with fail
  go_loopw [8] (fun ii wr => ∃ i : Nat, i ≤ ln ∧ ii = .int .i64 i ∧ St W wr (OvA b d (learnAllO O (l.take i)) :: R)) (fun ii _ => ln - (intOf ii).toNat)
  case atStart => exact ⟨0, Nat.zero_le _, rfl, st⟩
  case round =>
    obtain ⟨i, hi, rfl, sr⟩ := hrel
    by_cases hlt : i < ln
    · have rd := HRD.out _ sr.drop
      obtain ⟨g3, o3, rfl⟩ := rd.addr (by omega)
      have hiA : i < l.length := by rw [HN.out]; exact hlt
      have ci := rd.at (ivs_get hiA)
      have hsn := learnAll_snoc O hiA
      obtain ⟨q, hq⟩ : ∃ q, l[i] = q := ⟨_, rfl⟩
      rw [hq] at ci hsn
      have HS := hid hsn
      obtain ⟨P, hP⟩ : ∃ P, learnAllO O (l.take i) = P := ⟨_, rfl⟩
      have HPO : Hid (OOK P) := hid (by rw [← hP]; exact HO.out.learnAll _)
      rw [hP] at sr HS
      have hi2 : (i : Int) < (ln : Int) := by omega
      obtain ⟨v, t⟩ := OvA.open sr.drew
      have k0 := row1c t
      have k1 := row1c (St.pick 3 t)
      clear hq hsn rd hP hiA
      go_wp2_with fail
      go_region_law (go_simp; go_at_call 47; refine learn_c (t.perm [6, 6]) HPO.out.v ?_; rintro w3 s3)
      all_goals
        have u := OvA.close (O := learnO P q) (v := v) (s3.perm [2, 2, 2, 2, 2, 2, 0, 0])
        go_wp2_with fail
        go_roundw
        case rel => exact ⟨i + 1, by omega, by go_num, by rw [HS.out]; exact u⟩
        case measure => simp [intOf]; omega
    · have hie : i = ln := by omega
      subst hie
      rw [List.take_of_length_le (by rw [HN.out]; exact Nat.le_refl _)] at sr
      go_wp2_with fail
      go_end0
      exact HK.out _ sr

end

end Go.Proofs.YtbpdchaeakihkaaGreat
