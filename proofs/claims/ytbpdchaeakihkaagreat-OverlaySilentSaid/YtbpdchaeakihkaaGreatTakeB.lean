/- slices.DeleteFunc of an owned slice of int, for the two predicates of the overlay. Printed by mkTakeB.py. -/
import Derived.Test.YtbpdchaeakihkaaGreatTakeA
namespace Go.Proofs.YtbpdchaeakihkaaGreat
open Go.RowKit Go.Qd

/-- A predicate's value, beside whatever else is held. -/
def PredG (W : World) (R : List HP) (F : Nat) (cap : Array Value) (g : Int → Bool) : Prop := ∀ X : HP, PredF W (X :: R) F cap g

def FirstI (g : Int → Bool) (ps : List Int) (r : Int) : Prop := (r = -1 ∧ ps.any g = false) ∨ ∃ i : Nat, r = i ∧ i < ps.length ∧ (ps.take (i + 1)).filter (fun x => !g x) = ps.take i

def keptL (g : Int → Bool) (ps : List Int) (j : Nat) : List Int := (ps.take j).filter fun x => !g x
/-- Half way: the kept ones, some more, those that were not looked at. -/
def Part (g : Int → Bool) (ps zs : List Int) (i j : Nat) : Prop := ∃ x mid, zs = keptL g ps j ++ (x :: mid) ++ ps.drop j ∧ (keptL g ps j).length = i ∧ i + mid.length + 1 = j

theorem any_false_filter {g : Int → Bool} {l : List Int} (h : l.any g = false) : l.filter (fun x => !g x) = l := by
  rw [List.filter_eq_self]
  intro x hx
  have := List.any_eq_false.1 h x hx
  simpa using this
theorem first_at {g : Int → Bool} {ps : List Int} {i : Nat} (hi : i < ps.length) (h : (ps.take i).any g = false) (hg : g ps[i] = true) : (ps.take (i + 1)).filter (fun x => !g x) = ps.take i := by
  rw [List.take_succ_eq_append_getElem hi, List.filter_append, any_false_filter h]
  simp [hg]
theorem Part.start {g : Int → Bool} {ps : List Int} {i : Nat} (hi : i < ps.length) (h : (ps.take (i + 1)).filter (fun x => !g x) = ps.take i) : Part g ps ps i (i + 1) := by
  refine ⟨ps[i], [], ?_, ?_, rfl⟩
  · unfold keptL; rw [h, ← List.take_succ_eq_append_getElem hi, List.take_append_drop]
  · unfold keptL; rw [h, List.length_take]; omega
theorem Part.len {g : Int → Bool} {ps zs : List Int} {i j : Nat} (h : Part g ps zs i j) (hj : j ≤ ps.length) : zs.length = ps.length ∧ i < j := by
  obtain ⟨x, mid, rfl, h1, h2⟩ := h
  simp; omega
theorem Part.at {g : Int → Bool} {ps zs : List Int} {i j : Nat} (h : Part g ps zs i j) (hj : j < ps.length) (hz : j < zs.length) : zs[j] = ps[j] := by
  obtain ⟨x, mid, rfl, h1, h2⟩ := h
  have : (keptL g ps j ++ x :: mid).length = j := by simp; omega
  simp only [List.getElem_append, List.getElem_drop]
  split
  · rename_i hh; rw [this] at hh; omega
  · congr 1; omega
theorem Part.drop {g : Int → Bool} {ps zs : List Int} {i j : Nat} (h : Part g ps zs i j) (hj : j < ps.length) (hg : g ps[j] = true) : Part g ps zs i (j + 1) := by
  obtain ⟨x, mid, rfl, h1, h2⟩ := h
  have e : keptL g ps (j + 1) = keptL g ps j := by unfold keptL; rw [List.take_succ_eq_append_getElem hj, List.filter_append]; simp [hg]
  refine ⟨x, mid ++ [ps[j]], ?_, by rw [e]; exact h1, by simp; omega⟩
  rw [e, List.drop_eq_getElem_cons hj]; simp
theorem Part.keep {g : Int → Bool} {ps zs : List Int} {i j : Nat} (h : Part g ps zs i j) (hj : j < ps.length) (hg : g ps[j] = false) : Part g ps (zs.set i ps[j]) (i + 1) (j + 1) := by
  obtain ⟨x, mid, rfl, h1, h2⟩ := h
  have e : keptL g ps (j + 1) = keptL g ps j ++ [ps[j]] := by unfold keptL; rw [List.take_succ_eq_append_getElem hj, List.filter_append]; simp [hg]
  have e2 : (keptL g ps j ++ x :: mid ++ ps.drop j).set i ps[j] = keptL g ps j ++ ps[j] :: (mid ++ ps.drop j) := by
    rw [List.append_assoc, List.set_append_right _ _ (by omega), h1, Nat.sub_self]; rfl
  rw [e2, List.drop_eq_getElem_cons hj]
  cases mid with
  | nil => exact ⟨ps[j], [], by rw [e]; simp, by rw [e]; simp; omega, by simp at h2 ⊢; omega⟩
  | cons y mid => exact ⟨y, mid ++ [ps[j]], by rw [e]; simp, by rw [e]; simp; omega, by simp at h2 ⊢; omega⟩
theorem Part.end {g : Int → Bool} {ps zs : List Int} {i : Nat} (h : Part g ps zs i ps.length) : zs.take i = ps.filter (fun x => !g x) ∧ i ≤ ps.length := by
  obtain ⟨x, mid, rfl, h1, h2⟩ := h
  have e : keptL g ps ps.length = ps.filter (fun x => !g x) := by unfold keptL; rw [List.take_length]
  rw [e] at h1 ⊢
  refine ⟨?_, by omega⟩
  rw [List.append_assoc, ← h1, List.take_left]

theorem OwnS.frozen {W w : World} {R : List HP} {b o n c i : Nat} {cs : List Value} (st : St W w (OwnS 1 (some ⟨b, o, none⟩) n c cs :: R)) (hi : i < n) : w.frozen? ⟨b, o + i, none⟩ = false := by
  obtain ⟨sp, p, s⟩ := OwnS.open st
  have s1 : St W w (row b o (cs ++ sp) :: R) := s
  exact s1.rowFree (by have := p.len; simp; omega)

section
variable {W w : World} {R : List HP} {post : Ending → World → Prop}

set_option maxRecDepth 100000 in
set_option maxHeartbeats 4000000 in
theorem fstF97_c {p : Value} {g : Int → Bool} {a : Option Addr} {n c : Nat} {ps : List Int} (hp : Rds W R 1 a n c (ivs ps)) (hn : n ≤ 4096) (hf : PredF W R 97 #[p] g) (st : St W w R)
    (K0 : ∀ w', St W w' R → ps.any g = false → post (.returned (.int .i64 (-1))) w') (K1 : ∀ w' (i : Nat), St W w' R → i < ps.length → i < n → (ps.take (i + 1)).filter (fun x => !g x) = ps.take i → ((i : Int) == -1) = false → post (.returned (.int .i64 i)) w') : Calls Tryz.prog 149 #[.slice a n c, .func (.func 97) #[] #[p]] w post := by
  have HK0 := hid K0; clear K0
  have HK1 := hid K1; clear K1
  have HF := hid hf; clear hf
  have HN : Hid (ps.length = n) := hid (by have := (hp w st).len; simp [ivs] at this; omega)
  go_enter Tryz.func149, Tryz.ntmps149
  go_wp2_with fail
  go_loopw [8] (fun ii wr => ∃ i : Nat, i ≤ n ∧ ii = .int .i64 i ∧ (ps.take i).any g = false ∧ St W wr R) (fun ii _ => n - (intOf ii).toNat)
  case atStart => exact ⟨0, Nat.zero_le _, rfl, rfl, st⟩
  case round =>
    obtain ⟨i, hi, rfl, hg, sr⟩ := hrel
    have HG := hid hg; clear hg
    by_cases hlt : i < n
    · have rd := hp _ sr
      obtain ⟨g3, o3, rfl⟩ := rd.addr (by omega)
      have hiA : i < ps.length := by rw [HN.out]; exact hlt
      have ci := rd.at (ivs_get hiA)
      have HS := hid (any_snoc (g := g) hiA)
      have hT := first_at hiA HG.out
      obtain ⟨q, hq⟩ : ∃ q, ps[i] = q := ⟨_, rfl⟩
      rw [hq] at ci HS hT
      obtain ⟨b, hb⟩ : ∃ b, g q = b := ⟨_, rfl⟩
      have HB := hid hb
      have HT : Hid (b = true → (ps.take (i + 1)).filter (fun x => !g x) = ps.take i) := hid (fun h => hT (by rw [hb, h]))
      have HIA := hid hiA
      rw [hb] at HS
      clear hq hb rd hT hiA
      have hi2 : (i : Int) < (n : Int) := by omega
      cases b with
      | true =>
        have HA := hid (HT.out rfl)
        clear HT
        go_wp2_with (go_at_call 97; refine HF.out q _ _ sr ?_; rintro w6 s6; rw [HB.out])
        exact HK1.out _ _ s6 HIA.out hlt HA.out (by simp)
      | false =>
        go_wp2_with (go_at_call 97; refine HF.out q _ _ sr ?_; rintro w6 s6; rw [HB.out])
        go_roundw
        case rel => exact ⟨i + 1, by omega, by go_num, by rw [HS.out, HG.out]; rfl, s6⟩
        case measure => simp [intOf]; omega
    · have hie : i = n := by omega
      subst hie
      have hg := HG.out
      rw [List.take_of_length_le (by rw [HN.out]; exact Nat.le_refl _)] at hg
      have HG2 := hid hg; clear hg
      go_wp2_with fail
      exact HK0.out _ sr HG2.out

set_option maxRecDepth 100000 in
set_option maxHeartbeats 4000000 in
theorem delF97_c {p : Value} {g : Int → Bool} {a : Option Addr} {n c : Nat} {ps : List Int} (st : St W w (OwnS 1 a n c (ivs ps) :: R)) (hn : n ≤ 4096) (hf : PredG W R 97 #[p] g)
    (K : ∀ n' w', St W w' (OwnS 1 a n' c (ivs (ps.filter fun x => !g x)) :: R) → post (.returned (.slice a n' c)) w') : Calls Tryz.prog 96 #[.slice a n c, .func (.func 97) #[] #[p]] w post := by
  have HK := hid K; clear K
  have HF := hid hf; clear hf
  have hle := (OwnS.rd st).le
  have HN : Hid (ps.length = n) := hid (ivs_len (OwnS.rd st))
  have HN4 := hid hn
  go_enter Tryz.func96, Tryz.ntmps96
  go_wp2_with (go_at_call 149; refine fstF97_c OwnS.rds HN4.out (HF.out _) st (fun w1 s1 h2 => ?_) (fun w1 i s1 hi hin h2 hneg => ?_))
  · have HG := hid (any_false_filter h2)
    exact HK.out _ _ (by rw [HG.out]; exact s1)
  · have HP := hid (Part.start hi h2)
    obtain ⟨g3, o3, rfl⟩ := (OwnS.rd s1).addr (by omega)
    clear h2 hi
    go_loopw [5, 6] (fun ii jj wr => ∃ (i j : Nat) (zs : List Int), j ≤ n ∧ ii = .int .i64 i ∧ jj = .int .i64 j ∧ Hid (Part g ps zs i j) ∧ i < j ∧ St W wr (OwnS 1 (some ⟨g3, o3, none⟩) n c (ivs zs) :: R)) (fun _ jj _ => n - (intOf jj).toNat)
    case atStart => exact ⟨i, i + 1, ps, by omega, rfl, by go_num, HP, by omega, s1⟩
    case round =>
      obtain ⟨i, j, zs, hj, rfl, rfl, HP, hij, sr⟩ := hrel
      by_cases hlt : j < n
      · have rd := OwnS.rd sr
        have hjp : j < ps.length := by rw [HN.out]; exact hlt
        have hjz : j < zs.length := by rw [(HP.out.len (by omega)).1]; exact hjp
        have cj := rd.at (ivs_get hjz)
        have HZL := hid (show i < zs.length by omega)
        rw [HP.out.at hjp hjz] at cj
        have HD := hid (HP.out.drop hjp)
        have HE := hid (HP.out.keep hjp)
        obtain ⟨q, hq⟩ : ∃ q, ps[j] = q := ⟨_, rfl⟩
        rw [hq] at cj HD HE
        obtain ⟨b, hb⟩ : ∃ b, g q = b := ⟨_, rfl⟩
        have HB := hid hb
        rw [hb] at HD HE
        clear hq hb rd hjp hjz
        have hj2 : (j : Int) < (n : Int) := by omega
        cases b with
        | true =>
          go_wp2_with (go_at_call 97; refine HF.out _ q _ _ sr ?_; rintro w6 s6; rw [HB.out])
          go_roundw
          case rel => exact ⟨i, j + 1, zs, by omega, rfl, by go_num, hid (HD.out (by simp)), by omega, s6⟩
          case measure => simp [intOf]; omega
        | false =>
          have hi2 : (i : Int) < (n : Int) := by omega
          go_wp2_with (go_at_call 97; refine HF.out _ q _ _ sr ?_; rintro w6 s6; rw [HB.out]; have ci := (OwnS.rd s6).at (ivs_get HZL.out); have fi := OwnS.frozen s6 (show i < n by omega); have s7 := OwnS.set s6 (i := i) (v := .int .i64 q) (by omega) rfl)
          go_roundw
          case rel => exact ⟨i + 1, j + 1, zs.set i q, by omega, by go_num, by go_num, hid (HE.out (by simp)), by omega, by rw [show ivs (zs.set i q) = (ivs zs).set i (.int .i64 q) from by simp [ivs, List.map_set]]; exact s7⟩
          case measure => simp [intOf]; omega
      · have hje : j = n := by omega
        subst hje
        have hpe : Part g ps zs i ps.length := by rw [HN.out]; exact HP.out
        have HZ := hid (hpe.end.1)
        have hin2 : i ≤ j := by omega
        have e1 := run_slice_to Tryz.elem24 (some ⟨g3, o3, none⟩) j c i (by omega)
        have s2 := OwnS.short sr hin2
        have hji : (j - i) + i = j := by omega
        have hle2 : i + (j - i) ≤ c := by omega
        clear hpe
        go_wp2_with (first
          | (refine wpl_tail rfl _ _ rfl Tryz.elem24 i (n' := j - i) rfl rfl hji ?_; rintro ax cx ht)
          | (refine wpl_clear rfl _ rfl Tryz.elem24 rfl s2 hle2 ht ?_; rintro w7 s7))
        refine HK.out _ _ ?_
        rw [Nat.mul_one, show (ivs zs).take i = ivs (zs.take i) from by simp [ivs, List.map_take], HZ.out] at s7
        exact s7

set_option maxRecDepth 100000 in
set_option maxHeartbeats 4000000 in
theorem fstF101_c {p : Value} {g : Int → Bool} {a : Option Addr} {n c : Nat} {ps : List Int} (hp : Rds W R 1 a n c (ivs ps)) (hn : n ≤ 4096) (hf : PredF W R 101 #[p] g) (st : St W w R)
    (K0 : ∀ w', St W w' R → ps.any g = false → post (.returned (.int .i64 (-1))) w') (K1 : ∀ w' (i : Nat), St W w' R → i < ps.length → i < n → (ps.take (i + 1)).filter (fun x => !g x) = ps.take i → ((i : Int) == -1) = false → post (.returned (.int .i64 i)) w') : Calls Tryz.prog 149 #[.slice a n c, .func (.func 101) #[] #[p]] w post := by
  have HK0 := hid K0; clear K0
  have HK1 := hid K1; clear K1
  have HF := hid hf; clear hf
  have HN : Hid (ps.length = n) := hid (by have := (hp w st).len; simp [ivs] at this; omega)
  go_enter Tryz.func149, Tryz.ntmps149
  go_wp2_with fail
  go_loopw [8] (fun ii wr => ∃ i : Nat, i ≤ n ∧ ii = .int .i64 i ∧ (ps.take i).any g = false ∧ St W wr R) (fun ii _ => n - (intOf ii).toNat)
  case atStart => exact ⟨0, Nat.zero_le _, rfl, rfl, st⟩
  case round =>
    obtain ⟨i, hi, rfl, hg, sr⟩ := hrel
    have HG := hid hg; clear hg
    by_cases hlt : i < n
    · have rd := hp _ sr
      obtain ⟨g3, o3, rfl⟩ := rd.addr (by omega)
      have hiA : i < ps.length := by rw [HN.out]; exact hlt
      have ci := rd.at (ivs_get hiA)
      have HS := hid (any_snoc (g := g) hiA)
      have hT := first_at hiA HG.out
      obtain ⟨q, hq⟩ : ∃ q, ps[i] = q := ⟨_, rfl⟩
      rw [hq] at ci HS hT
      obtain ⟨b, hb⟩ : ∃ b, g q = b := ⟨_, rfl⟩
      have HB := hid hb
      have HT : Hid (b = true → (ps.take (i + 1)).filter (fun x => !g x) = ps.take i) := hid (fun h => hT (by rw [hb, h]))
      have HIA := hid hiA
      rw [hb] at HS
      clear hq hb rd hT hiA
      have hi2 : (i : Int) < (n : Int) := by omega
      cases b with
      | true =>
        have HA := hid (HT.out rfl)
        clear HT
        go_wp2_with (go_at_call 101; refine HF.out q _ _ sr ?_; rintro w6 s6; rw [HB.out])
        exact HK1.out _ _ s6 HIA.out hlt HA.out (by simp)
      | false =>
        go_wp2_with (go_at_call 101; refine HF.out q _ _ sr ?_; rintro w6 s6; rw [HB.out])
        go_roundw
        case rel => exact ⟨i + 1, by omega, by go_num, by rw [HS.out, HG.out]; rfl, s6⟩
        case measure => simp [intOf]; omega
    · have hie : i = n := by omega
      subst hie
      have hg := HG.out
      rw [List.take_of_length_le (by rw [HN.out]; exact Nat.le_refl _)] at hg
      have HG2 := hid hg; clear hg
      go_wp2_with fail
      exact HK0.out _ sr HG2.out

set_option maxRecDepth 100000 in
set_option maxHeartbeats 4000000 in
theorem delF101_c {p : Value} {g : Int → Bool} {a : Option Addr} {n c : Nat} {ps : List Int} (st : St W w (OwnS 1 a n c (ivs ps) :: R)) (hn : n ≤ 4096) (hf : PredG W R 101 #[p] g)
    (K : ∀ n' w', St W w' (OwnS 1 a n' c (ivs (ps.filter fun x => !g x)) :: R) → post (.returned (.slice a n' c)) w') : Calls Tryz.prog 96 #[.slice a n c, .func (.func 101) #[] #[p]] w post := by
  have HK := hid K; clear K
  have HF := hid hf; clear hf
  have hle := (OwnS.rd st).le
  have HN : Hid (ps.length = n) := hid (ivs_len (OwnS.rd st))
  have HN4 := hid hn
  go_enter Tryz.func96, Tryz.ntmps96
  go_wp2_with (go_at_call 149; refine fstF101_c OwnS.rds HN4.out (HF.out _) st (fun w1 s1 h2 => ?_) (fun w1 i s1 hi hin h2 hneg => ?_))
  · have HG := hid (any_false_filter h2)
    exact HK.out _ _ (by rw [HG.out]; exact s1)
  · have HP := hid (Part.start hi h2)
    obtain ⟨g3, o3, rfl⟩ := (OwnS.rd s1).addr (by omega)
    clear h2 hi
    go_loopw [5, 6] (fun ii jj wr => ∃ (i j : Nat) (zs : List Int), j ≤ n ∧ ii = .int .i64 i ∧ jj = .int .i64 j ∧ Hid (Part g ps zs i j) ∧ i < j ∧ St W wr (OwnS 1 (some ⟨g3, o3, none⟩) n c (ivs zs) :: R)) (fun _ jj _ => n - (intOf jj).toNat)
    case atStart => exact ⟨i, i + 1, ps, by omega, rfl, by go_num, HP, by omega, s1⟩
    case round =>
      obtain ⟨i, j, zs, hj, rfl, rfl, HP, hij, sr⟩ := hrel
      by_cases hlt : j < n
      · have rd := OwnS.rd sr
        have hjp : j < ps.length := by rw [HN.out]; exact hlt
        have hjz : j < zs.length := by rw [(HP.out.len (by omega)).1]; exact hjp
        have cj := rd.at (ivs_get hjz)
        have HZL := hid (show i < zs.length by omega)
        rw [HP.out.at hjp hjz] at cj
        have HD := hid (HP.out.drop hjp)
        have HE := hid (HP.out.keep hjp)
        obtain ⟨q, hq⟩ : ∃ q, ps[j] = q := ⟨_, rfl⟩
        rw [hq] at cj HD HE
        obtain ⟨b, hb⟩ : ∃ b, g q = b := ⟨_, rfl⟩
        have HB := hid hb
        rw [hb] at HD HE
        clear hq hb rd hjp hjz
        have hj2 : (j : Int) < (n : Int) := by omega
        cases b with
        | true =>
          go_wp2_with (go_at_call 101; refine HF.out _ q _ _ sr ?_; rintro w6 s6; rw [HB.out])
          go_roundw
          case rel => exact ⟨i, j + 1, zs, by omega, rfl, by go_num, hid (HD.out (by simp)), by omega, s6⟩
          case measure => simp [intOf]; omega
        | false =>
          have hi2 : (i : Int) < (n : Int) := by omega
          go_wp2_with (go_at_call 101; refine HF.out _ q _ _ sr ?_; rintro w6 s6; rw [HB.out]; have ci := (OwnS.rd s6).at (ivs_get HZL.out); have fi := OwnS.frozen s6 (show i < n by omega); have s7 := OwnS.set s6 (i := i) (v := .int .i64 q) (by omega) rfl)
          go_roundw
          case rel => exact ⟨i + 1, j + 1, zs.set i q, by omega, by go_num, by go_num, hid (HE.out (by simp)), by omega, by rw [show ivs (zs.set i q) = (ivs zs).set i (.int .i64 q) from by simp [ivs, List.map_set]]; exact s7⟩
          case measure => simp [intOf]; omega
      · have hje : j = n := by omega
        subst hje
        have hpe : Part g ps zs i ps.length := by rw [HN.out]; exact HP.out
        have HZ := hid (hpe.end.1)
        have hin2 : i ≤ j := by omega
        have e1 := run_slice_to Tryz.elem24 (some ⟨g3, o3, none⟩) j c i (by omega)
        have s2 := OwnS.short sr hin2
        have hji : (j - i) + i = j := by omega
        have hle2 : i + (j - i) ≤ c := by omega
        clear hpe
        go_wp2_with (first
          | (refine wpl_tail rfl _ _ rfl Tryz.elem24 i (n' := j - i) rfl rfl hji ?_; rintro ax cx ht)
          | (refine wpl_clear rfl _ rfl Tryz.elem24 rfl s2 hle2 ht ?_; rintro w7 s7))
        refine HK.out _ _ ?_
        rw [Nat.mul_one, show (ivs zs).take i = ivs (zs.take i) from by simp [ivs, List.map_take], HZ.out] at s7
        exact s7

end

end Go.Proofs.YtbpdchaeakihkaaGreat
