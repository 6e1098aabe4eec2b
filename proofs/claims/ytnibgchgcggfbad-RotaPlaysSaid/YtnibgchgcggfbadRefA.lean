/- rota's reference: with, few. -/
import Derived.Test.YtnibgchgcggfbadRotaS
import Derived.Test.YtnibgchgcggfbadIntsL
namespace Go.Proofs.Ytnibgchgcggfbad
open Go.RowKit Go.Qd

def withP (A : List Int) (n : Int) : Bool := A.any (fun x => decide (n ≤ x))
def withF (A : List Int) (n : Int) : List Int := A.filter (fun x => decide (x < n)) ++ (if withP A n then [n] else []) ++ A.filter (fun x => decide (n < x))
def withL (A : List Int) (n : Int) : List Int := A.filter (fun x => decide (x < n)) ++ [n] ++ A.filter (fun x => decide (n < x))

theorem with_small {A : List Int} {n : Int} (h : ∀ x ∈ A, x < n) : withP A n = false ∧ withF A n = A := by
  have h1 : withP A n = false := by
    unfold withP; rw [List.any_eq_false]; intro x hx; simp; exact h x hx
  have h2 : A.filter (fun x => decide (n < x)) = [] := List.filter_eq_nil_iff.2 fun x hx => by have := h x hx; simp; omega
  have h3 : A.filter (fun x => decide (x < n)) = A := List.filter_eq_self.2 fun x hx => by simpa using h x hx
  exact ⟨h1, by unfold withF; rw [h1, h2, h3]; simp⟩

theorem withP_snoc (A : List Int) (n x : Int) : withP (A ++ [x]) n = (withP A n || decide (n ≤ x)) := by unfold withP; simp
theorem withF_lt {A : List Int} {n x : Int} (hA : ∀ y ∈ A, y < x) (h : x < n) : withP A n = false ∧ withF (A ++ [x]) n = withF A n ++ [x] := by
  obtain ⟨h1, h2⟩ := with_small (A := A) (n := n) fun y hy => by have := hA y hy; omega
  obtain ⟨h3, h4⟩ := with_small (A := A ++ [x]) (n := n) fun y hy => by
    rcases List.mem_append.1 hy with g | g
    · have := hA y g; omega
    · simp at g; omega
  exact ⟨h1, by rw [h4, h2]⟩
theorem withF_eq {A : List Int} {n : Int} (hA : ∀ y ∈ A, y < n) : withP A n = false ∧ withF (A ++ [n]) n = withF A n ++ [n] := by
  obtain ⟨h1, h2⟩ := with_small hA
  have h3 : A.filter (fun x => decide (n < x)) = [] := List.filter_eq_nil_iff.2 fun x hx => by have := hA x hx; simp; omega
  have h4 : A.filter (fun x => decide (x < n)) = A := List.filter_eq_self.2 fun x hx => by simpa using hA x hx
  refine ⟨h1, ?_⟩
  unfold withF
  rw [withP_snoc, h1, List.filter_append, List.filter_append, h3, h4]
  simp
theorem withF_gt {A : List Int} {n x : Int} (h : n < x) : (withP A n = true → withF (A ++ [x]) n = withF A n ++ [x]) ∧ (withP A n = false → withF (A ++ [x]) n = withF A n ++ [n] ++ [x]) := by
  have h1 : ¬ x < n := by omega
  have h2 : withP (A ++ [x]) n = true := by rw [withP_snoc]; simp; right; omega
  constructor
  · intro hp
    unfold withF
    rw [h2, hp, List.filter_append, List.filter_append]
    simp [h, h1]
  · intro hp
    have h3 : A.filter (fun x => decide (n < x)) = [] := List.filter_eq_nil_iff.2 fun y hy => by
      unfold withP at hp; rw [List.any_eq_false] at hp; have := hp y hy; simp at this ⊢; omega
    unfold withF
    rw [h2, hp, List.filter_append, List.filter_append, h3]
    simp [h, h1]

theorem withL_end {A : List Int} {n : Int} : (if withP A n then withF A n else withF A n ++ [n]) = withL A n := by
  by_cases h : withP A n = true
  · rw [if_pos h]; unfold withF withL; rw [if_pos h]
  · have h' : withP A n = false := by simpa using h
    have h3 : A.filter (fun x => decide (n < x)) = [] := List.filter_eq_nil_iff.2 fun y hy => by
      unfold withP at h'; rw [List.any_eq_false] at h'; have := h' y hy; simp at this ⊢; omega
    rw [if_neg h]; unfold withF withL; rw [if_neg h, h3]; simp

theorem mem_withL {A : List Int} {n x : Int} : x ∈ withL A n ↔ x ∈ A ∨ x = n := by
  unfold withL
  simp only [List.mem_append, List.mem_filter, List.mem_singleton, decide_eq_true_eq]
  constructor
  · rintro ((⟨h, _⟩ | h) | ⟨h, _⟩)
    · exact .inl h
    · exact .inr h
    · exact .inl h
  · rintro (h | h)
    · rcases Int.lt_trichotomy x n with g | g | g
      · exact .inl (.inl ⟨h, g⟩)
      · exact .inl (.inr g)
      · exact .inr ⟨h, g⟩
    · exact .inl (.inr h)
theorem withL_sorted {A : List Int} (h : A.Pairwise (· < ·)) (n : Int) : (withL A n).Pairwise (· < ·) := by
  unfold withL
  rw [List.append_assoc, List.pairwise_append]
  refine ⟨h.filter _, List.pairwise_cons.2 ⟨fun x hx => by simp at hx; exact hx.2, h.filter _⟩, fun a ha b hb => ?_⟩
  simp at ha
  rcases List.mem_append.1 hb with g | g
  · simp at g; omega
  · simp at g; omega
theorem withL_len (A : List Int) (n : Int) : (withL A n).length ≤ A.length + 1 := by
  unfold withL
  have : (A.filter fun x => decide (x < n)).length + (A.filter fun x => decide (n < x)).length ≤ A.length := by
    induction A with
    | nil => simp
    | cons a l ih =>
      simp only [List.filter_cons, List.length_cons]
      rcases Int.lt_trichotomy a n with g | g | g
      · have : ¬ n < a := by omega
        simp [g, this]; omega
      · have h1 : ¬ n < a := by omega
        have h2 : ¬ a < n := by omega
        simp [h1, h2]; omega
      · have : ¬ a < n := by omega
        simp [g, this]; omega
  simp only [List.length_append, List.length_singleton]; omega

set_option maxRecDepth 100000 in
set_option maxHeartbeats 4000000 in
theorem with_c {W w : World} {R : List HP} {post : Ending → World → Prop} {ao : Option Addr} {m c : Nat} {A : List Int} {n : Int} (st : St W w R) (rd : Rds W R 1 ao m c (ivs A)) (hs : A.Pairwise (· < ·)) (hm : m ≤ 100000)
    (K : ∀ ao' k' c' w', St W w' (OwnS 1 ao' k' c' (ivs (withL A n)) :: R) → post (.returned (.slice ao' k' c')) w') : Calls Try.prog 18 #[.slice ao m c, .int .i64 n] w post := by
  have HK := hid K; clear K
  have hl := hid (ivs_len (rd w st))
  have hbig := (rd w st).big
  have HRD := hid rd; have HS := hid hs
  clear hs rd
  have s1 := OwnS.empty (sz := 1) (st.alloc #[] 3).drop (some ⟨w.heap.size, 0, none⟩)
  go_enter Try.func18, Try.ntmps18
  go_wp2_with fail
  go_loopw [5, 6, 7] (fun ov pv iv' wr => ∃ (i k : Nat) (a : Option Addr) (cc : Nat), i ≤ m ∧ iv' = .int .i64 i ∧ ov = .slice a k cc ∧ pv = .bool (withP (A.take i) n) ∧ k ≤ i + 1 ∧ St W wr (OwnS 1 a k cc (ivs (withF (A.take i) n)) :: R)) (fun _ _ iv' _ => m - (intOf iv').toNat)
  case atStart => exact ⟨0, 0, _, 0, Nat.zero_le _, rfl, rfl, rfl, by omega, s1⟩
  case round =>
    obtain ⟨i, k, a, cc, hi, rfl, rfl, rfl, hk, sr⟩ := hrel
    by_cases hlt : i < m
    · have rdr := HRD.out _ sr.drop
      obtain ⟨g, o, rfl⟩ := rdr.addr (by omega)
      have hiA : i < A.length := by rw [hl.out]; exact hlt
      have ci := fun (w' : World) (s' : ∃ L, St W w' (L :: R)) => (HRD.out _ s'.choose_spec.drop).at (ivs_get hiA)
      have c0 := ci _ ⟨_, sr⟩
      have hts : A.take (i + 1) = A.take i ++ [A[i]] := List.take_succ_eq_append_getElem hiA
      have hlow : ∀ y ∈ A.take i, y < A[i] := fun y hy => by
        obtain ⟨j, hj, rfl⟩ := List.getElem_of_mem hy
        simp only [List.length_take] at hj
        rw [List.getElem_take]
        exact List.pairwise_iff_getElem.1 HS.out j i (by omega) hiA (by omega)
      obtain ⟨x, hx⟩ : ∃ x, A[i] = x := ⟨_, rfl⟩
      rw [hx] at c0 hts hlow
      have HTS := hid hts; have HLOW := hid hlow
      have HCI := hid (show ∀ (w' : World) (L : HP), St W w' (L :: R) → w'.cell? ⟨g, o + i, none⟩ = some (iv x) from fun w' L s' => by rw [← hx]; exact ci w' ⟨L, s'⟩)
      clear hx hts hlow ci rdr
      have hb1 : (k + 1) * 8 ≤ 140737488355328 := by omega
      have hm1 : k + 1 ≤ maxLen := by unfold maxLen; omega
      have hb2 : (k + 1 + 1) * 8 ≤ 140737488355328 := by omega
      have hm2 : k + 1 + 1 ≤ maxLen := by unfold maxLen; omega
      rcases Int.lt_trichotomy x n with hxn | hxn | hxn
      · obtain ⟨e1, e2⟩ := withF_lt HLOW.out hxn
        have hpn : withP (A.take (i + 1)) n = false := by
          have : ¬ n ≤ x := by omega
          rw [HTS.out, withP_snoc, e1]; simp [this]
        have HE := hid (show withF (A.take (i + 1)) n = withF (A.take i) n ++ [x] by rw [HTS.out, e2])
        have HP := hid hpn
        rw [e1]
        clear e1 e2 hpn
        have hne : (x != n) = true := by simp; omega
        have s2 := sr.alloc #[.int .i64 x] 3
        go_wp2_with (at_builtin; refine wpl_append rfl (.tmp 35) (.tmp 40) rfl Try.elem28 rfl rfl (St.pick 1 s2) (St.rowRd (n := 1) s2 rfl (by decide) (ivs_one [x])) hb1 hm1 ?_; rintro a4 c4 w4 s4)
        go_roundw
        case rel => exact ⟨i + 1, k + 1, a4, c4, by omega, by go_num, rfl, by rw [HP.out], by omega, by rw [HE.out, ivs_append]; exact (St.pick 1 s4).drop⟩
        case measure => simp [intOf]; omega
      · subst hxn
        obtain ⟨e1, e2⟩ := withF_eq HLOW.out
        have HE := hid (show withF (A.take (i + 1)) x = withF (A.take i) x ++ [x] by rw [HTS.out, e2])
        have HP := hid (show withP (A.take (i + 1)) x = true by rw [HTS.out, withP_snoc]; simp)
        rw [e1]
        clear e1 e2
        have s2 := sr.alloc #[.int .i64 x] 3
        go_wp2_with (at_builtin; refine wpl_append rfl (.tmp 25) (.tmp 27) rfl Try.elem28 rfl rfl (St.pick 1 s2) (St.rowRd (n := 1) s2 rfl (by decide) (ivs_one [x])) hb1 hm1 ?_; rintro a4 c4 w4 s4; have s5 := (St.pick 1 s4).drop; have c5 := HCI.out _ _ s5)
        go_roundw
        case rel => exact ⟨i + 1, k + 1, a4, c4, by omega, by go_num, rfl, by rw [HP.out], by omega, by rw [HE.out, ivs_append]; exact s5⟩
        case measure => simp [intOf]; omega
      · obtain ⟨e1, e2⟩ := withF_gt (A := A.take i) hxn
        have HP := hid (show withP (A.take (i + 1)) n = true by rw [HTS.out, withP_snoc]; simp; right; omega)
        have hne : (x != n) = true := by simp; omega
        have hle : n ≤ x := by omega
        obtain ⟨put, hput⟩ : ∃ put, withP (A.take i) n = put := ⟨_, rfl⟩
        have hput0 := hput
        rw [hput] at e1 e2 ⊢
        clear hput
        cases put with
        | true =>
          have HE := hid (show withF (A.take (i + 1)) n = withF (A.take i) n ++ [x] by rw [HTS.out]; exact e1 rfl)
          clear e1 e2 hput0
          have s2 := sr.alloc #[.int .i64 x] 3
          go_wp2_with (at_builtin; refine wpl_append rfl (.tmp 35) (.tmp 40) rfl Try.elem28 rfl rfl (St.pick 1 s2) (St.rowRd (n := 1) s2 rfl (by decide) (ivs_one [x])) hb1 hm1 ?_; rintro a4 c4 w4 s4)
          go_roundw
          case rel => exact ⟨i + 1, k + 1, a4, c4, by omega, by go_num, rfl, by rw [HP.out], by omega, by rw [HE.out, ivs_append]; exact (St.pick 1 s4).drop⟩
          case measure => simp [intOf]; omega
        | false =>
          have HE := hid (show withF (A.take (i + 1)) n = withF (A.take i) n ++ [n] ++ [x] by rw [HTS.out]; exact e2 rfl)
          have hk' : k ≤ i := by
            have h1 := ivs_len (OwnS.rd sr)
            have h2 := hput0
            unfold withP at h2
            rw [List.any_eq_false] at h2
            have h3 := (with_small (A := A.take i) (n := n) fun y hy => by have := h2 y hy; simpa using this).2
            rw [h3, List.length_take] at h1
            omega
          clear e1 e2 hput0
          have s2 := sr.alloc #[.int .i64 n] 3
          go_wp2_with (first
            | (at_builtin; refine wpl_append rfl (.tmp 25) (.tmp 27) rfl Try.elem28 rfl rfl (St.pick 1 s2) (St.rowRd (n := 1) s2 rfl (by decide) (ivs_one [n])) hb1 hm1 ?_; rintro a4 c4 w4 s4; have s5 := (St.pick 1 s4).drop; have c5 := HCI.out _ _ s5; have s6 := s5.alloc #[.int .i64 x] 3)
            | (at_builtin; refine wpl_append rfl (.tmp 35) (.tmp 40) rfl Try.elem28 rfl rfl (St.pick 1 s6) (St.rowRd (n := 1) s6 rfl (by decide) (ivs_one [x])) hb2 hm2 ?_; rintro a7 c7 w7 s7))
          go_roundw
          case rel => exact ⟨i + 1, k + 1 + 1, a7, c7, by omega, by go_num, rfl, by rw [HP.out], by omega, by rw [HE.out, ivs_append, ivs_append]; exact (St.pick 1 s7).drop⟩
          case measure => simp [intOf]; omega
    · have hie : i = m := by omega
      subst hie
      have htk : A.take i = A := List.take_of_length_le (by rw [hl.out]; exact Nat.le_refl _)
      rw [htk] at sr ⊢
      have hend := withL_end (A := A) (n := n)
      obtain ⟨put, hput⟩ : ∃ put, withP A n = put := ⟨_, rfl⟩
      rw [hput] at hend ⊢
      have hb1 : (k + 1) * 8 ≤ 140737488355328 := by omega
      have hm1 : k + 1 ≤ maxLen := by unfold maxLen; omega
      clear hput htk
      cases put with
      | true =>
        have HE := hid (show withF A n = withL A n from hend)
        clear hend
        go_wp2
        exact HK.out _ _ _ _ (by rw [← HE.out]; exact sr)
      | false =>
        have HE := hid (show withF A n ++ [n] = withL A n from hend)
        clear hend
        have s2 := sr.alloc #[.int .i64 n] 3
        go_wp2_with (at_builtin; refine wpl_append rfl (.tmp 44) (.tmp 46) rfl Try.elem28 rfl rfl (St.pick 1 s2) (St.rowRd (n := 1) s2 rfl (by decide) (ivs_one [n])) hb1 hm1 ?_; rintro a4 c4 w4 s4)
        exact HK.out _ _ _ _ (by rw [← HE.out, ivs_append]; exact (St.pick 1 s4).drop)

end Go.Proofs.Ytnibgchgcggfbad
