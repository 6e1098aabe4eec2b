/- Takes: several texts, joined. The overlay: fits, for the kinds without marks and entries. -/
import Derived.Test.YtbpdchaeakihkaaGreatWireH
import Derived.Test.YtbpdchaeakihkaaGreatBeats
namespace Go.Proofs.YtbpdchaeakihkaaGreat
open Go.RowKit Go.Qd

def fitsB (O : OV) (m : MsgV) (k : Nat) : Bool := goodB m k && (thereB O m.peer && !(m.ps.any fun p => !thereB O p))

section
variable {W w : World} {R : List HP} {post : Ending → World → Prop} {b d : Nat} {O : OV} {m : MsgV}

theorem pred95 {B : Nat} (hc : O.cfg.length = 20) : PredF W (row B 0 [Value.pointer (some ⟨b, 0, none⟩)] :: OvA b d O :: R) 95 #[.pointer (some ⟨B, 0, none⟩)] (fun p => !thereB O p) := by
  intro x w1 p1 s1 K
  have HK := hid K; clear K
  have c0 := row1c s1
  go_enter Tryz.func95, Tryz.ntmps95
  go_wp2_with (go_at_call 83; refine there_c (St.pick 1 s1) hc ?_)
  exact HK.out _ s1

attribute [local go_sem ↓] execOp_load58

set_option maxRecDepth 100000 in
set_option maxHeartbeats 4000000 in
theorem fits_c {k : Nat} (h1 : 1 ≤ k) (h9 : k ≤ 9) (hk : m.kind = k) (hp : Rds W (OvA b d O :: R) 1 m.pa m.pn m.pc (ivs m.ps)) (hn : m.pn ≤ 4096) (st : St W w (OvA b d O :: R)) (hc : O.cfg.length = 20)
    (K : ∀ w', St W w' (OvA b d O :: R) → post (.returned (.bool (fitsB O m k))) w') : Calls Tryz.prog 51 #[.pointer (some ⟨b, 0, none⟩), .agg m.cells.toArray] w post := by
  have HK := hid K; clear K
  have HP1 := hid hp
  have HN := hid hn
  have H1 := hid h1
  have H9 := hid h9
  have HKK := hid hk
  have k9 : decide ((k : Int) ≤ 9) = true := decide_eq_true (by omega)
  have s0 := st.alloc #[.pointer (some ⟨b, 0, none⟩)] 27
  unfold fitsB at HK
  obtain ⟨b0, e0⟩ : ∃ b, goodB m k = b := ⟨_, rfl⟩
  rw [e0] at HK
  have HG := hid e0
  clear e0 hp hn h1 h9 hk
  cases b0 with
  | false =>
    simp only [Bool.false_and] at HK
    go_enter Tryz.func51, Tryz.ntmps51
    go_wp2_with (first
      | (refine wpl_boxA (vs := m.cells) rfl (.tmp 1) rfl rfl s0 ?_; rintro T w1 s1; have f1 := lg58 s1)
      | (go_at_call 93; refine good_c H1.out H9.out HKK.out HP1.out.cons.cons HN.out s1 ?_; rintro w2 s2; rw [HG.out]))
    exact HK.out _ (s2.dropN 2)
  | true =>
    simp only [Bool.true_and] at HK
    obtain ⟨b1, e1⟩ : ∃ b, thereB O m.peer = b := ⟨_, rfl⟩
    rw [e1] at HK
    have HT := hid e1
    clear e1
    cases b1 with
    | false =>
      simp only [Bool.false_and] at HK
      go_enter Tryz.func51, Tryz.ntmps51
      go_wp2_with (first
        | (refine wpl_boxA (vs := m.cells) rfl (.tmp 1) rfl rfl s0 ?_; rintro T w1 s1; have f1 := lg58 s1)
        | (go_at_call 93; refine good_c H1.out H9.out HKK.out HP1.out.cons.cons HN.out s1 ?_; rintro w2 s2; rw [HG.out]
           obtain ⟨g0, g1, _, _, g4, _⟩ := boxM s2; rw [HKK.out] at g0; have k0 := row1c (St.pick 1 s2))
        | (go_at_call 83; refine there_c (St.pick 2 s2) hc ?_; rw [HT.out]))
      exact HK.out _ (s2.dropN 2)
    | true =>
      simp only [Bool.true_and] at HK
      go_enter Tryz.func51, Tryz.ntmps51
      go_wp2_with (first
        | (refine wpl_boxA (vs := m.cells) rfl (.tmp 1) rfl rfl s0 ?_; rintro T w1 s1; have f1 := lg58 s1)
        | (go_at_call 93; refine good_c H1.out H9.out HKK.out HP1.out.cons.cons HN.out s1 ?_; rintro w2 s2; rw [HG.out]
           obtain ⟨g0, g1, _, _, g4, _⟩ := boxM s2; rw [HKK.out] at g0; have k0 := row1c (St.pick 1 s2))
        | (go_at_call 83; refine there_c (St.pick 2 s2) hc ?_; rw [HT.out])
        | (go_at_call 94; refine contF95_c (HP1.out.cons) HN.out (pred95 hc) s2.drop ?_; rintro w3 s3))
      exact HK.out _ s3.drop

end

end Go.Proofs.YtbpdchaeakihkaaGreat

/- slices.DeleteFunc of an owned slice of int, for the two predicates of the overlay. Printed by mkTakeB.py. -/
namespace Go.Proofs.YtbpdchaeakihkaaGreat
open Go.RowKit Go.Qd

/-- A predicate's value, beside whatever else is held. -/
def PredG (W : World) (R : List HP) (F : Nat) (cap : Array Value) (g : Int → Bool) : Prop := ∀ X : HP, PredF W (X :: R) F cap g

def FirstI (g : Int → Bool) (ps : List Int) (r : Int) : Prop := (r = -1 ∧ ps.any g = false) ∨ ∃ i : Nat, r = i ∧ i < ps.length ∧ (ps.take (i + 1)).filter (fun x => !g x) = ps.take i

def keptL (g : Int → Bool) (ps : List Int) (j : Nat) : List Int := (ps.take j).filter fun x => !g x
/-- Half way: the kept ones, some more, those that were not looked at. -/
def Part (g : Int → Bool) (ps zs : List Int) (i j : Nat) : Prop := ∃ x mid, zs = keptL g ps j ++ (x :: mid) ++ ps.drop j ∧ (keptL g ps j).length = i ∧ i + mid.length + 1 = j

theorem any_false_filter {g : Int → Bool} {l : List Int} (h : l.any g = false) : l.filter (fun x => !g x) = l := by
  rw [List.filter_eq_self]
  intro x hx
  have := List.any_eq_false.1 h x hx
  simpa using this
theorem first_at {g : Int → Bool} {ps : List Int} {i : Nat} (hi : i < ps.length) (h : (ps.take i).any g = false) (hg : g ps[i] = true) : (ps.take (i + 1)).filter (fun x => !g x) = ps.take i := by
  rw [List.take_succ_eq_append_getElem hi, List.filter_append, any_false_filter h]
  simp [hg]
theorem Part.start {g : Int → Bool} {ps : List Int} {i : Nat} (hi : i < ps.length) (h : (ps.take (i + 1)).filter (fun x => !g x) = ps.take i) : Part g ps ps i (i + 1) := by
  refine ⟨ps[i], [], ?_, ?_, rfl⟩
  · unfold keptL; rw [h, ← List.take_succ_eq_append_getElem hi, List.take_append_drop]
  · unfold keptL; rw [h, List.length_take]; omega
theorem Part.len {g : Int → Bool} {ps zs : List Int} {i j : Nat} (h : Part g ps zs i j) (hj : j ≤ ps.length) : zs.length = ps.length ∧ i < j := by
  obtain ⟨x, mid, rfl, h1, h2⟩ := h
  simp; omega
theorem Part.at {g : Int → Bool} {ps zs : List Int} {i j : Nat} (h : Part g ps zs i j) (hj : j < ps.length) (hz : j < zs.length) : zs[j] = ps[j] := by
  obtain ⟨x, mid, rfl, h1, h2⟩ := h
  have : (keptL g ps j ++ x :: mid).length = j := by simp; omega
  simp only [List.getElem_append, List.getElem_drop]
  split
  · rename_i hh; rw [this] at hh; omega
  · congr 1; omega
theorem Part.drop {g : Int → Bool} {ps zs : List Int} {i j : Nat} (h : Part g ps zs i j) (hj : j < ps.length) (hg : g ps[j] = true) : Part g ps zs i (j + 1) := by
  obtain ⟨x, mid, rfl, h1, h2⟩ := h
  have e : keptL g ps (j + 1) = keptL g ps j := by unfold keptL; rw [List.take_succ_eq_append_getElem hj, List.filter_append]; simp [hg]
  refine ⟨x, mid ++ [ps[j]], ?_, by rw [e]; exact h1, by simp; omega⟩
  rw [e, List.drop_eq_getElem_cons hj]; simp
theorem Part.keep {g : Int → Bool} {ps zs : List Int} {i j : Nat} (h : Part g ps zs i j) (hj : j < ps.length) (hg : g ps[j] = false) : Part g ps (zs.set i ps[j]) (i + 1) (j + 1) := by
  obtain ⟨x, mid, rfl, h1, h2⟩ := h
  have e : keptL g ps (j + 1) = keptL g ps j ++ [ps[j]] := by unfold keptL; rw [List.take_succ_eq_append_getElem hj, List.filter_append]; simp [hg]
  have e2 : (keptL g ps j ++ x :: mid ++ ps.drop j).set i ps[j] = keptL g ps j ++ ps[j] :: (mid ++ ps.drop j) := by
    rw [List.append_assoc, List.set_append_right _ _ (by omega), h1, Nat.sub_self]; rfl
  rw [e2, List.drop_eq_getElem_cons hj]
  cases mid with
  | nil => exact ⟨ps[j], [], by rw [e]; simp, by rw [e]; simp; omega, by simp at h2 ⊢; omega⟩
  | cons y mid => exact ⟨y, mid ++ [ps[j]], by rw [e]; simp, by rw [e]; simp; omega, by simp at h2 ⊢; omega⟩
theorem Part.end {g : Int → Bool} {ps zs : List Int} {i : Nat} (h : Part g ps zs i ps.length) : zs.take i = ps.filter (fun x => !g x) ∧ i ≤ ps.length := by
  obtain ⟨x, mid, rfl, h1, h2⟩ := h
  have e : keptL g ps ps.length = ps.filter (fun x => !g x) := by unfold keptL; rw [List.take_length]
  rw [e] at h1 ⊢
  refine ⟨?_, by omega⟩
  rw [List.append_assoc, ← h1, List.take_left]

theorem OwnS.frozen {W w : World} {R : List HP} {b o n c i : Nat} {cs : List Value} (st : St W w (OwnS 1 (some ⟨b, o, none⟩) n c cs :: R)) (hi : i < n) : w.frozen? ⟨b, o + i, none⟩ = false := by
  obtain ⟨sp, p, s⟩ := OwnS.open st
  have s1 : St W w (row b o (cs ++ sp) :: R) := s
  exact s1.rowFree (by have := p.len; simp; omega)

section
variable {W w : World} {R : List HP} {post : Ending → World → Prop}

set_option maxRecDepth 100000 in
set_option maxHeartbeats 4000000 in
theorem fstF97_c {p : Value} {g : Int → Bool} {a : Option Addr} {n c : Nat} {ps : List Int} (hp : Rds W R 1 a n c (ivs ps)) (hn : n ≤ 4096) (hf : PredF W R 97 #[p] g) (st : St W w R)
    (K0 : ∀ w', St W w' R → ps.any g = false → post (.returned (.int .i64 (-1))) w') (K1 : ∀ w' (i : Nat), St W w' R → i < ps.length → i < n → (ps.take (i + 1)).filter (fun x => !g x) = ps.take i → ((i : Int) == -1) = false → post (.returned (.int .i64 i)) w') : Calls Tryz.prog 149 #[.slice a n c, .func (.func 97) #[] #[p]] w post := by
  have HK0 := hid K0; clear K0
  have HK1 := hid K1; clear K1
  have HF := hid hf; clear hf
  have HN : Hid (ps.length = n) := hid (by have := (hp w st).len; simp [ivs] at this; omega)
  go_enter Tryz.func149, Tryz.ntmps149
  go_wp2_with fail
  go_loopw [8] (fun ii wr => ∃ i : Nat, i ≤ n ∧ ii = .int .i64 i ∧ (ps.take i).any g = false ∧ St W wr R) (fun ii _ => n - (intOf ii).toNat)
  case atStart => exact ⟨0, Nat.zero_le _, rfl, rfl, st⟩
  case round =>
    obtain ⟨i, hi, rfl, hg, sr⟩ := hrel
    have HG := hid hg; clear hg
    by_cases hlt : i < n
    · have rd := hp _ sr
      obtain ⟨g3, o3, rfl⟩ := rd.addr (by omega)
      have hiA : i < ps.length := by rw [HN.out]; exact hlt
      have ci := rd.at (ivs_get hiA)
      have HS := hid (any_snoc (g := g) hiA)
      have hT := first_at hiA HG.out
      obtain ⟨q, hq⟩ : ∃ q, ps[i] = q := ⟨_, rfl⟩
      rw [hq] at ci HS hT
      obtain ⟨b, hb⟩ : ∃ b, g q = b := ⟨_, rfl⟩
      have HB := hid hb
      have HT : Hid (b = true → (ps.take (i + 1)).filter (fun x => !g x) = ps.take i) := hid (fun h => hT (by rw [hb, h]))
      have HIA := hid hiA
      rw [hb] at HS
      clear hq hb rd hT hiA
      have hi2 : (i : Int) < (n : Int) := by omega
      cases b with
      | true =>
        have HA := hid (HT.out rfl)
        clear HT
        go_wp2_with (go_at_call 97; refine HF.out q _ _ sr ?_; rintro w6 s6; rw [HB.out])
        exact HK1.out _ _ s6 HIA.out hlt HA.out (by simp)
      | false =>
        go_wp2_with (go_at_call 97; refine HF.out q _ _ sr ?_; rintro w6 s6; rw [HB.out])
        go_roundw
        case rel => exact ⟨i + 1, by omega, by go_num, by rw [HS.out, HG.out]; rfl, s6⟩
        case measure => simp [intOf]; omega
    · have hie : i = n := by omega
      subst hie
      have hg := HG.out
      rw [List.take_of_length_le (by rw [HN.out]; exact Nat.le_refl _)] at hg
      have HG2 := hid hg; clear hg
      go_wp2_with fail
      exact HK0.out _ sr HG2.out

set_option maxRecDepth 100000 in
set_option maxHeartbeats 4000000 in
theorem delF97_c {p : Value} {g : Int → Bool} {a : Option Addr} {n c : Nat} {ps : List Int} (st : St W w (OwnS 1 a n c (ivs ps) :: R)) (hn : n ≤ 4096) (hf : PredG W R 97 #[p] g)
    (K : ∀ n' w', St W w' (OwnS 1 a n' c (ivs (ps.filter fun x => !g x)) :: R) → post (.returned (.slice a n' c)) w') : Calls Tryz.prog 96 #[.slice a n c, .func (.func 97) #[] #[p]] w post := by
  have HK := hid K; clear K
  have HF := hid hf; clear hf
  have hle := (OwnS.rd st).le
  have HN : Hid (ps.length = n) := hid (ivs_len (OwnS.rd st))
  have HN4 := hid hn
  go_enter Tryz.func96, Tryz.ntmps96
  go_wp2_with (go_at_call 149; refine fstF97_c OwnS.rds HN4.out (HF.out _) st (fun w1 s1 h2 => ?_) (fun w1 i s1 hi hin h2 hneg => ?_))
  · have HG := hid (any_false_filter h2)
    exact HK.out _ _ (by rw [HG.out]; exact s1)
  · have HP := hid (Part.start hi h2)
    obtain ⟨g3, o3, rfl⟩ := (OwnS.rd s1).addr (by omega)
    clear h2 hi
    go_loopw [5, 6] (fun ii jj wr => ∃ (i j : Nat) (zs : List Int), j ≤ n ∧ ii = .int .i64 i ∧ jj = .int .i64 j ∧ Hid (Part g ps zs i j) ∧ i < j ∧ St W wr (OwnS 1 (some ⟨g3, o3, none⟩) n c (ivs zs) :: R)) (fun _ jj _ => n - (intOf jj).toNat)
    case atStart => exact ⟨i, i + 1, ps, by omega, rfl, by go_num, HP, by omega, s1⟩
    case round =>
      obtain ⟨i, j, zs, hj, rfl, rfl, HP, hij, sr⟩ := hrel
      by_cases hlt : j < n
      · have rd := OwnS.rd sr
        have hjp : j < ps.length := by rw [HN.out]; exact hlt
        have hjz : j < zs.length := by rw [(HP.out.len (by omega)).1]; exact hjp
        have cj := rd.at (ivs_get hjz)
        have HZL := hid (show i < zs.length by omega)
        rw [HP.out.at hjp hjz] at cj
        have HD := hid (HP.out.drop hjp)
        have HE := hid (HP.out.keep hjp)
        obtain ⟨q, hq⟩ : ∃ q, ps[j] = q := ⟨_, rfl⟩
        rw [hq] at cj HD HE
        obtain ⟨b, hb⟩ : ∃ b, g q = b := ⟨_, rfl⟩
        have HB := hid hb
        rw [hb] at HD HE
        clear hq hb rd hjp hjz
        have hj2 : (j : Int) < (n : Int) := by omega
        cases b with
        | true =>
          go_wp2_with (go_at_call 97; refine HF.out _ q _ _ sr ?_; rintro w6 s6; rw [HB.out])
          go_roundw
          case rel => exact ⟨i, j + 1, zs, by omega, rfl, by go_num, hid (HD.out (by simp)), by omega, s6⟩
          case measure => simp [intOf]; omega
        | false =>
          have hi2 : (i : Int) < (n : Int) := by omega
          go_wp2_with (go_at_call 97; refine HF.out _ q _ _ sr ?_; rintro w6 s6; rw [HB.out]; have ci := (OwnS.rd s6).at (ivs_get HZL.out); have fi := OwnS.frozen s6 (show i < n by omega); have s7 := OwnS.set s6 (i := i) (v := .int .i64 q) (by omega) rfl)
          go_roundw
          case rel => exact ⟨i + 1, j + 1, zs.set i q, by omega, by go_num, by go_num, hid (HE.out (by simp)), by omega, by rw [show ivs (zs.set i q) = (ivs zs).set i (.int .i64 q) from by simp [ivs, List.map_set]]; exact s7⟩
          case measure => simp [intOf]; omega
      · have hje : j = n := by omega
        subst hje
        have hpe : Part g ps zs i ps.length := by rw [HN.out]; exact HP.out
        have HZ := hid (hpe.end.1)
        have hin2 : i ≤ j := by omega
        have e1 := run_slice_to Tryz.elem24 (some ⟨g3, o3, none⟩) j c i (by omega)
        have s2 := OwnS.short sr hin2
        have hji : (j - i) + i = j := by omega
        have hle2 : i + (j - i) ≤ c := by omega
        clear hpe
        go_wp2_with (first
          | (refine wpl_tail rfl _ _ rfl Tryz.elem24 i (n' := j - i) rfl rfl hji ?_; rintro ax cx ht)
          | (refine wpl_clear rfl _ rfl Tryz.elem24 rfl s2 hle2 ht ?_; rintro w7 s7))
        refine HK.out _ _ ?_
        rw [Nat.mul_one, show (ivs zs).take i = ivs (zs.take i) from by simp [ivs, List.map_take], HZ.out] at s7
        exact s7

set_option maxRecDepth 100000 in
set_option maxHeartbeats 4000000 in
theorem fstF101_c {p : Value} {g : Int → Bool} {a : Option Addr} {n c : Nat} {ps : List Int} (hp : Rds W R 1 a n c (ivs ps)) (hn : n ≤ 4096) (hf : PredF W R 101 #[p] g) (st : St W w R)
    (K0 : ∀ w', St W w' R → ps.any g = false → post (.returned (.int .i64 (-1))) w') (K1 : ∀ w' (i : Nat), St W w' R → i < ps.length → i < n → (ps.take (i + 1)).filter (fun x => !g x) = ps.take i → ((i : Int) == -1) = false → post (.returned (.int .i64 i)) w') : Calls Tryz.prog 149 #[.slice a n c, .func (.func 101) #[] #[p]] w post := by
  have HK0 := hid K0; clear K0
  have HK1 := hid K1; clear K1
  have HF := hid hf; clear hf
  have HN : Hid (ps.length = n) := hid (by have := (hp w st).len; simp [ivs] at this; omega)
  go_enter Tryz.func149, Tryz.ntmps149
  go_wp2_with fail
  go_loopw [8] (fun ii wr => ∃ i : Nat, i ≤ n ∧ ii = .int .i64 i ∧ (ps.take i).any g = false ∧ St W wr R) (fun ii _ => n - (intOf ii).toNat)
  case atStart => exact ⟨0, Nat.zero_le _, rfl, rfl, st⟩
  case round =>
    obtain ⟨i, hi, rfl, hg, sr⟩ := hrel
    have HG := hid hg; clear hg
    by_cases hlt : i < n
    · have rd := hp _ sr
      obtain ⟨g3, o3, rfl⟩ := rd.addr (by omega)
      have hiA : i < ps.length := by rw [HN.out]; exact hlt
      have ci := rd.at (ivs_get hiA)
      have HS := hid (any_snoc (g := g) hiA)
      have hT := first_at hiA HG.out
      obtain ⟨q, hq⟩ : ∃ q, ps[i] = q := ⟨_, rfl⟩
      rw [hq] at ci HS hT
      obtain ⟨b, hb⟩ : ∃ b, g q = b := ⟨_, rfl⟩
      have HB := hid hb
      have HT : Hid (b = true → (ps.take (i + 1)).filter (fun x => !g x) = ps.take i) := hid (fun h => hT (by rw [hb, h]))
      have HIA := hid hiA
      rw [hb] at HS
      clear hq hb rd hT hiA
      have hi2 : (i : Int) < (n : Int) := by omega
      cases b with
      | true =>
        have HA := hid (HT.out rfl)
        clear HT
        go_wp2_with (go_at_call 101; refine HF.out q _ _ sr ?_; rintro w6 s6; rw [HB.out])
        exact HK1.out _ _ s6 HIA.out hlt HA.out (by simp)
      | false =>
        go_wp2_with (go_at_call 101; refine HF.out q _ _ sr ?_; rintro w6 s6; rw [HB.out])
        go_roundw
        case rel => exact ⟨i + 1, by omega, by go_num, by rw [HS.out, HG.out]; rfl, s6⟩
        case measure => simp [intOf]; omega
    · have hie : i = n := by omega
      subst hie
      have hg := HG.out
      rw [List.take_of_length_le (by rw [HN.out]; exact Nat.le_refl _)] at hg
      have HG2 := hid hg; clear hg
      go_wp2_with fail
      exact HK0.out _ sr HG2.out

set_option maxRecDepth 100000 in
set_option maxHeartbeats 4000000 in
theorem delF101_c {p : Value} {g : Int → Bool} {a : Option Addr} {n c : Nat} {ps : List Int} (st : St W w (OwnS 1 a n c (ivs ps) :: R)) (hn : n ≤ 4096) (hf : PredG W R 101 #[p] g)
    (K : ∀ n' w', St W w' (OwnS 1 a n' c (ivs (ps.filter fun x => !g x)) :: R) → post (.returned (.slice a n' c)) w') : Calls Tryz.prog 96 #[.slice a n c, .func (.func 101) #[] #[p]] w post := by
  have HK := hid K; clear K
  have HF := hid hf; clear hf
  have hle := (OwnS.rd st).le
  have HN : Hid (ps.length = n) := hid (ivs_len (OwnS.rd st))
  have HN4 := hid hn
  go_enter Tryz.func96, Tryz.ntmps96
  go_wp2_with (go_at_call 149; refine fstF101_c OwnS.rds HN4.out (HF.out _) st (fun w1 s1 h2 => ?_) (fun w1 i s1 hi hin h2 hneg => ?_))
  · have HG := hid (any_false_filter h2)
    exact HK.out _ _ (by rw [HG.out]; exact s1)
  · have HP := hid (Part.start hi h2)
    obtain ⟨g3, o3, rfl⟩ := (OwnS.rd s1).addr (by omega)
    clear h2 hi
    go_loopw [5, 6] (fun ii jj wr => ∃ (i j : Nat) (zs : List Int), j ≤ n ∧ ii = .int .i64 i ∧ jj = .int .i64 j ∧ Hid (Part g ps zs i j) ∧ i < j ∧ St W wr (OwnS 1 (some ⟨g3, o3, none⟩) n c (ivs zs) :: R)) (fun _ jj _ => n - (intOf jj).toNat)
    case atStart => exact ⟨i, i + 1, ps, by omega, rfl, by go_num, HP, by omega, s1⟩
    case round =>
      obtain ⟨i, j, zs, hj, rfl, rfl, HP, hij, sr⟩ := hrel
      by_cases hlt : j < n
      · have rd := OwnS.rd sr
        have hjp : j < ps.length := by rw [HN.out]; exact hlt
        have hjz : j < zs.length := by rw [(HP.out.len (by omega)).1]; exact hjp
        have cj := rd.at (ivs_get hjz)
        have HZL := hid (show i < zs.length by omega)
        rw [HP.out.at hjp hjz] at cj
        have HD := hid (HP.out.drop hjp)
        have HE := hid (HP.out.keep hjp)
        obtain ⟨q, hq⟩ : ∃ q, ps[j] = q := ⟨_, rfl⟩
        rw [hq] at cj HD HE
        obtain ⟨b, hb⟩ : ∃ b, g q = b := ⟨_, rfl⟩
        have HB := hid hb
        rw [hb] at HD HE
        clear hq hb rd hjp hjz
        have hj2 : (j : Int) < (n : Int) := by omega
        cases b with
        | true =>
          go_wp2_with (go_at_call 101; refine HF.out _ q _ _ sr ?_; rintro w6 s6; rw [HB.out])
          go_roundw
          case rel => exact ⟨i, j + 1, zs, by omega, rfl, by go_num, hid (HD.out (by simp)), by omega, s6⟩
          case measure => simp [intOf]; omega
        | false =>
          have hi2 : (i : Int) < (n : Int) := by omega
          go_wp2_with (go_at_call 101; refine HF.out _ q _ _ sr ?_; rintro w6 s6; rw [HB.out]; have ci := (OwnS.rd s6).at (ivs_get HZL.out); have fi := OwnS.frozen s6 (show i < n by omega); have s7 := OwnS.set s6 (i := i) (v := .int .i64 q) (by omega) rfl)
          go_roundw
          case rel => exact ⟨i + 1, j + 1, zs.set i q, by omega, by go_num, by go_num, hid (HE.out (by simp)), by omega, by rw [show ivs (zs.set i q) = (ivs zs).set i (.int .i64 q) from by simp [ivs, List.map_set]]; exact s7⟩
          case measure => simp [intOf]; omega
      · have hje : j = n := by omega
        subst hje
        have hpe : Part g ps zs i ps.length := by rw [HN.out]; exact HP.out
        have HZ := hid (hpe.end.1)
        have hin2 : i ≤ j := by omega
        have e1 := run_slice_to Tryz.elem24 (some ⟨g3, o3, none⟩) j c i (by omega)
        have s2 := OwnS.short sr hin2
        have hji : (j - i) + i = j := by omega
        have hle2 : i + (j - i) ≤ c := by omega
        clear hpe
        go_wp2_with (first
          | (refine wpl_tail rfl _ _ rfl Tryz.elem24 i (n' := j - i) rfl rfl hji ?_; rintro ax cx ht)
          | (refine wpl_clear rfl _ rfl Tryz.elem24 rfl s2 hle2 ht ?_; rintro w7 s7))
        refine HK.out _ _ ?_
        rw [Nat.mul_one, show (ivs zs).take i = ivs (zs.take i) from by simp [ivs, List.map_take], HZ.out] at s7
        exact s7

end

end Go.Proofs.YtbpdchaeakihkaaGreat

/- The overlay: others. -/
namespace Go.Proofs.YtbpdchaeakihkaaGreat
open Go.RowKit Go.Qd

def othersL (O : OV) (but : List Int) : List Int := O.V.a.filter fun p => !memB but p

section
variable {W w : World} {R : List HP} {post : Ending → World → Prop} {b d : Nat} {O : OV}

theorem pred97 {B : Nat} {ba : Option Addr} {bn bc : Nat} {but : List Int} (hb : Rds W R 1 ba bn bc (ivs but)) :
    PredG W (row B 0 [.slice ba bn bc] :: R) 97 #[.pointer (some ⟨B, 0, none⟩)] (fun p => memB but p) := by
  intro X x w1 p1 s1 K
  have HK := hid K; clear K
  have c0 := row1c (St.pick 1 s1)
  have rd := hb _ (s1.dropN 2)
  go_enter Tryz.func97, Tryz.ntmps97
  go_wp2_with (go_at_call 98; refine contains_c rd ?_)
  exact HK.out _ s1

set_option maxRecDepth 100000 in
set_option maxHeartbeats 4000000 in
theorem others_c {ba : Option Addr} {bn bc : Nat} {but : List Int} (st : St W w (OvA b d O :: R)) (h : OOK O) (hb : Rds W R 1 ba bn bc (ivs but))
    (K : ∀ ao n c w', St W w' (OwnS 1 ao n c (ivs (othersL O but)) :: OvA b d O :: R) → post (.returned (.slice ao n c)) w') : Calls Tryz.prog 52 #[.pointer (some ⟨b, 0, none⟩), .slice ba bn bc] w post := by
  have HK := hid K; clear K
  have HN := hid (show O.V.a.length ≤ 4096 from Nat.le_trans h.v.na4 (by decide))
  have HB := hid hb
  have s0 := st.alloc #[.slice ba bn bc] 24
  obtain ⟨v, s1⟩ := OvA.open (St.pick 1 s0)
  have g0 := row1c s1
  clear h hb
  go_enter Tryz.func52, Tryz.ntmps52
  go_wp2_with (first
    | (go_at_call 16; refine active_c (St.pick 6 s1) HN.out ?_; rintro a5 c5 w5 s5)
    | (go_at_call 96; refine delF97_c (R := row w.heap.size 0 [.slice ba bn bc] :: ViewsA v O.V :: row b 0 [.pointer (some ⟨v, 0, none⟩)] :: NewsA b 1 O.L O.C :: row b 3 (ivs O.cfg) :: row b 23 [.pointer (some ⟨d, 0, none⟩)] :: row b 24 (ivs O.heard) :: row b 36 [.int .i64 O.ticks, .int .i64 O.asked, .int .i64 O.since] :: DiceA d O.D :: R) (s5.perm [0, 8]) HN.out (pred97 (HB.out.cons.cons.cons.cons.cons.cons.cons.cons)) ?_; rintro n6 w6 s6))
  exact HK.out _ _ _ _ (St.pick 1 (St.drop (St.pick 2 (OvA.close (O := O) (v := v) (s6.perm [3, 3, 3, 3, 3, 3, 2, 2])))))

end

end Go.Proofs.YtbpdchaeakihkaaGreat

/- The overlay: Take, of a message Join. -/
namespace Go.Proofs.YtbpdchaeakihkaaGreat
open Go.RowKit Go.Qd

/-- The news of a joiner. -/
def fwdM (O : OV) (p : Int) : MsgV := { kindM 2 with peer := p, hops := O.cfg.getD 7 0 }
def fwdL (O : OV) (p : Int) (l : List Int) : List LetV := l.map fun q => ⟨q, fwdM O p⟩
theorem fwd_snoc {O : OV} {p : Int} {l : List Int} {i : Nat} (h : i < l.length) : fwdL O p (l.take (i + 1)) = fwdL O p (l.take i) ++ [⟨l[i], fwdM O p⟩] := by
  unfold fwdL; rw [List.take_succ_eq_append_getElem h, List.map_append]; rfl
def joinedO (O : OV) (p : Int) : OV := raiseO (heardO O p) p
def take1O (O : OV) (p : Int) : OV := { joinedO O p with L := (joinedO O p).L ++ fwdL (joinedO O p) p (othersL (joinedO O p) [p]) }

theorem heardO_LC (O : OV) (p : Int) : (heardO O p).L = O.L ∧ (heardO O p).C = O.C ∧ (heardO O p).cfg = O.cfg := by
  unfold heardO learnO; split <;> exact ⟨rfl, rfl, rfl⟩

section
variable {W w : World} {R : List HP} {post : Ending → World → Prop} {b d : Nat} {O : OV} {m : MsgV} {p : Int}

def b58fG (z x y : Value) : Sem Value := Instr.build 58 #[(0, z), (1, x), (2, y)]
theorem execOp_b58f (ρ : Operand → Value) (dst : Option Tmp) (z x y : Operand) (ty : TypeId) (pos : String) (after : Array Edge) (guard : Option (Nat × Bool)) :
    execOp ρ { dst, op := .build 58 #[(0, z), (1, x), (2, y)], type := ty, pos, after, guard } = (do pure (.value (← b58fG (ρ z) (ρ x) (ρ y)))) := by simp [execOp, b58fG]
theorem run_b58f (x y : Int) (w : World) : (b58fG (.int .i64 2) (.int .i64 x) (.int .i64 y)).run Tryz.prog w = .ok (.agg ({ kindM 2 with peer := x, hops := y } : MsgV).cells.toArray) w := by kernel_rfl
attribute [local go_sem ↓] execOp_load58 execOp_b58f
attribute [local go_sem] run_b58f

set_option maxRecDepth 100000 in
set_option maxHeartbeats 8000000 in
theorem take1_c (st : St W w (OvA b d O :: R)) (h : OOK O) (hn : onodeB O p = true) (hk : m.kind = 1) (hp : Rds W (OvA b d O :: R) 1 m.pa m.pn m.pc (ivs m.ps)) (hpn : m.pn ≤ 4096) (hf : fitsB O m 1 = true)
    (hL : O.L.length ≤ 100) (hC : O.C.length ≤ 100)
    (K : ∀ la ln lc ca cn cc w', St W w' (OvA b d (freshO (take1O O p)) :: OwnS 13 la ln lc (letC (take1O O p).L) :: OwnS 2 ca cn cc (chC (take1O O p).C) :: sepL ((take1O O p).L.map LetV.own) :: R) →
      post (.returned (.tuple #[.slice la ln lc, .slice ca cn cc, .int .i64 0])) w') : Calls Tryz.prog 22 #[.pointer (some ⟨b, 0, none⟩), .int .i64 p, .agg m.cells.toArray] w post := by
  have HK := hid K; clear K
  have HN := hid hn
  have hcl := h.cl
  have HO1 := hid (h.heard p)
  have HO2 := hid ((h.heard p).raise p)
  have HF := hid hf
  have HKD := hid hk
  have HPR := hid hp
  have HPN := hid hpn
  have hl1 : (heardO O p).L.length ≤ 4000 := by rw [(heardO_LC O p).1]; omega
  have hc1 : (heardO O p).C.length ≤ 4000 := by rw [(heardO_LC O p).2.1]; omega
  have hl2 : (joinedO O p).L.length ≤ 200 := by have := raiseO_len (heardO O p) p; rw [(heardO_LC O p).1] at this; unfold joinedO; omega
  have HL2 := hid hl2
  have HO := hid h
  clear hn hf hk hp hpn h hl2
  go_enter Tryz.func22, Tryz.ntmps22
  go_wp2_with (first
    | (refine wpl_boxA (vs := m.cells) rfl (.tmp 2) rfl rfl st ?_; rintro T w1 s1; have f1 := lg58 s1)
    | (go_at_call 42; refine onode_c (St.pick 1 s1) hcl ?_; rw [HN.out])
    | (go_at_call 51; refine fits_c (k := 1) (by decide) (by decide) HKD.out ?_ HPN.out (St.pick 1 s1) hcl ?_
       · exact fun w' s => HPR.out w' (St.drop (St.pick 1 s))
       rintro w2 s2; rw [HF.out])
    | (go_at_call 17; refine heard_c s2 HO.out HN.out ?_; rintro w3 s3; obtain ⟨g0, _⟩ := boxM (St.pick 1 s3); rw [HKD.out] at g0)
    | (go_at_call 43; refine oraise_c s3 HO1.out hl1 hc1 ?_; rintro w4 s4; have s5 := s4.alloc #[.int .i64 p] 3)
    | (go_at_call 52; refine others_c (R := row w4.heap.size 0 [.int .i64 p] :: row T 0 m.cells :: R) (but := [p]) (s5.perm [1, 0]) HO2.out (fun w' s => St.rowRd (sz := 1) (n := 1) s rfl (by decide) (ivs_one [p])) ?_; rintro ao n c w6 s6))
  have hna : n ≤ 11 := by
    have h1 := ivs_len (OwnS.rd s6)
    have h2 : (othersL (raiseO (heardO O p) p) [p]).length ≤ (raiseO (heardO O p) p).V.a.length := List.length_filter_le _ _
    have h3 := HO2.out.v.la; have h4 := HO2.out.v.am
    omega
  obtain ⟨J, hJ⟩ : ∃ J, raiseO (heardO O p) p = J := ⟨_, rfl⟩
  have eT : take1O O p = { J with L := J.L ++ fwdL J p (othersL J [p]) } := by unfold take1O joinedO; rw [hJ]
  have hl3 : J.L.length ≤ 200 := by rw [← hJ]; exact HL2.out
  rw [hJ] at s6 HO2
  rw [eT] at HK
  obtain ⟨A, hA⟩ : ∃ A, othersL J [p] = A := ⟨_, rfl⟩
  rw [hA] at s6 HK
  have HNN : Hid (A.length = n) := hid (ivs_len (OwnS.rd s6))
  have HJC := hid HO2.out.cl
  clear hJ eT hA HL2
  go_loopw [36] (fun ii wr => ∃ i : Nat, i ≤ n ∧ ii = .int .i64 i ∧ St W wr (OwnS 1 ao n c (ivs A) :: OvA b d { J with L := J.L ++ fwdL J p (A.take i) } :: R)) (fun ii _ => n - (intOf ii).toNat)
  case atStart => exact ⟨0, Nat.zero_le _, rfl, by rw [List.take_zero, show fwdL J p [] = [] from rfl, List.append_nil]; exact (s6.perm [2, 2]).dropN 2⟩
  case round =>
    obtain ⟨i, hi, rfl, sr⟩ := hrel
    by_cases hlt : i < n
    · have rd := OwnS.rd sr
      obtain ⟨g3, o3, rfl⟩ := rd.addr (by omega)
      have hiA : i < A.length := by rw [HNN.out]; exact hlt
      have ci := rd.at (ivs_get hiA)
      have hsn := fwd_snoc (O := J) (p := p) hiA
      obtain ⟨q, hq⟩ : ∃ q, A[i] = q := ⟨_, rfl⟩
      rw [hq] at ci hsn
      have HS := hid hsn
      have hbl : (J.L ++ fwdL J p (A.take i)).length ≤ 4096 := by rw [List.length_append]; simp [fwdL]; omega
      have HBL := hid hbl
      clear hq hsn rd hbl
      have hi2 : (i : Int) < (n : Int) := by omega
      obtain ⟨hp, hhp⟩ : ∃ hp, J.cfg.getD 7 0 = hp := ⟨_, rfl⟩
      have HHP := hid hhp
      have eM : fwdM J p = { kindM 2 with peer := p, hops := hp } := by unfold fwdM; rw [hhp]
      rw [eM] at HS
      clear hhp eM
      go_wp2_with fail
      obtain ⟨v, t⟩ := OvA.open (St.pick 1 sr).drew
      have f := fun (w' : World) (R3 : List HP) (s3 : St W w' (row b 3 (ivs J.cfg) :: R3)) => show w'.cell? ⟨b, 10, none⟩ = some (.int .i64 hp) from by have := (cfg2 HJC.out s3).1; rwa [HHP.out] at this
      have FF := hid f
      have gA := f _ _ (St.pick 2 t)
      clear f
      go_region_held3 (fun w' => w'.cell? ⟨b, 10, none⟩ = some (.int .i64 hp))
        (first
          | with_reducible exact gB
          | with_reducible exact gA)
        (first | (go_at_call 44; refine send_c (to := q) (m := { kindM 2 with peer := p, hops := hp }) ((OwnS.none0 (sz := 1) t).perm [2, 0]) HBL.out ?_; rintro w6 s6; have gB := FF.out _ _ (St.pick 2 s6)))
      all_goals
        have u := OvA.close (O := { J with L := J.L ++ fwdL J p (A.take i) ++ [⟨q, { kindM 2 with peer := p, hops := hp }⟩] }) (v := v) (s6.perm [1, 0])
        go_wp2_with fail
        go_roundw
        case rel => exact ⟨i + 1, by omega, by go_num, by rw [HS.out, ← List.append_assoc]; exact St.pick 1 u⟩
        case measure => simp [intOf]; omega
    · have hie : i = n := by omega
      subst hie
      rw [List.take_of_length_le (by rw [HNN.out]; exact Nat.le_refl _)] at sr
      go_wp2_with (go_at_call 45; refine told_c (St.pick 1 sr) ?_; rintro la ln lc ca cn cc w9 s9)
      go_ret3
      exact HK.out _ _ _ _ _ _ _ (St.drop (St.pick 4 s9) |>.perm [])

end

end Go.Proofs.YtbpdchaeakihkaaGreat

/- The overlay: answer, neighbor, learn. -/
namespace Go.Proofs.YtbpdchaeakihkaaGreat
open Go.RowKit Go.Qd

def answerO (O : OV) (p : Int) (yes : Bool) : OV := if O.asked = p then (if yes = true then raiseO { O with asked := -1 } p else { O with asked := -1 }) else O
def fullB (O : OV) : Bool := decide (O.V.am ≤ (O.V.a.length : Int))
def neighborO (O : OV) (p : Int) (high : Bool) : OV :=
  if (!high && !memB O.V.a p && fullB O) = true then { O with L := O.L ++ [⟨p, kindM 5⟩] } else { raiseO O p with L := (raiseO O p).L ++ [⟨p, kindM 4⟩] }
def learnAllO (O : OV) (l : List Int) : OV := l.foldl learnO O
theorem learnAll_snoc (O : OV) {l : List Int} {i : Nat} (h : i < l.length) : learnAllO O (l.take (i + 1)) = learnO (learnAllO O (l.take i)) l[i] := by
  unfold learnAllO; rw [List.take_succ_eq_append_getElem h, List.foldl_append]; rfl
theorem OOK.asked {O : OV} (h : OOK O) (x : Int) : OOK { O with asked := x } := ⟨h.v, h.cl, h.hl, h.r⟩
theorem OOK.learnAll {O : OV} (h : OOK O) (l : List Int) : OOK (learnAllO O l) := by
  induction l generalizing O with
  | nil => exact h
  | cons x l ih => exact ih (h.learn x)
theorem OOK.news {O : OV} (h : OOK O) (L : List LetV) (C : List (Int × Bool)) : OOK { O with L := L, C := C } := ⟨h.v, h.cl, h.hl, h.r⟩

section
variable {W w : World} {R : List HP} {post : Ending → World → Prop} {b d : Nat} {O : OV} {m : MsgV} {p : Int}

set_option maxRecDepth 100000 in
set_option maxHeartbeats 4000000 in
theorem answer_c {yes : Bool} (st : St W w (OvA b d O :: R)) (h : OOK O) (hL : O.L.length ≤ 4000) (hC : O.C.length ≤ 4000) (K : ∀ w', St W w' (OvA b d (answerO O p yes) :: R) → post (.returned (.tuple #[])) w') :
    Calls Tryz.prog 55 #[.pointer (some ⟨b, 0, none⟩), .int .i64 p, .bool yes] w post := by
  obtain ⟨v, s⟩ := OvA.open st
  obtain ⟨g36, g37, g38, f36, f37, f38⟩ := row3c (St.pick 5 s)
  unfold answerO at K
  obtain ⟨q, hq⟩ : ∃ q, O.asked = q := ⟨_, rfl⟩
  rw [hq] at g37 K
  by_cases hqp : q = p
  · rw [if_pos hqp] at K
    have HK := hid K; clear K
    have hb : (q != p) = false := by simp [hqp]
    have s1 := (St.pick 5 s).rowSet (i := 1) (by simp) (.int .i64 (-1))
    have s1' : St W (w.setCell ⟨b, 37, none⟩ (.int .i64 (-1))) (row b 36 [.int .i64 O.ticks, .int .i64 (-1), .int .i64 O.since] :: row b 0 [.pointer (some ⟨v, 0, none⟩)] :: NewsA b 1 O.L O.C :: row b 3 (ivs O.cfg) :: row b 23 [.pointer (some ⟨d, 0, none⟩)] :: row b 24 (ivs O.heard) :: ViewsA v O.V :: DiceA d O.D :: R) := s1
    have s2 := OvA.close (O := { O with asked := -1 }) (v := v) (s1'.perm [1, 1, 1, 1, 1, 0, 0, 0])
    have HO := hid (h.asked (-1))
    clear hq hqp h s1 s1'
    cases yes with
    | true =>
      simp only [if_true] at HK
      go_enter Tryz.func55, Tryz.ntmps55
      go_wp2_with (go_at_call 43; refine oraise_c s2 HO.out hL hC ?_; rintro w3 s3)
      go_end0
      exact HK.out _ s3
    | false =>
      simp only [Bool.false_eq_true, if_false] at HK
      go_enter Tryz.func55, Tryz.ntmps55
      go_wp2_with fail
      go_end0
      exact HK.out _ s2
  · rw [if_neg hqp] at K
    have HK := hid K; clear K
    have hb : (q != p) = true := by simpa using hqp
    clear hq hqp h
    go_enter Tryz.func55, Tryz.ntmps55
    go_wp2_with fail
    go_end0
    exact HK.out _ st

set_option maxRecDepth 100000 in
set_option maxHeartbeats 4000000 in
theorem neighbor_c {high : Bool} (st : St W w (OvA b d O :: R)) (h : OOK O) (hL : O.L.length ≤ 1000) (hC : O.C.length ≤ 1000) (K : ∀ w', St W w' (OvA b d (neighborO O p high) :: R) → post (.returned (.tuple #[])) w') :
    Calls Tryz.prog 54 #[.pointer (some ⟨b, 0, none⟩), .int .i64 p, .bool high] w post := by
  obtain ⟨v, s⟩ := OvA.open st
  have g0 := row1c s
  have HO := hid h
  have HL2 : Hid ((raiseO O p).L.length ≤ 4000) := hid (by have := raiseO_len O p; omega)
  unfold neighborO at K
  obtain ⟨z, hz⟩ : ∃ z, memB O.V.a p = z := ⟨_, rfl⟩
  obtain ⟨f, hf⟩ : ∃ f, fullB O = f := ⟨_, rfl⟩
  have HZ := hid hz; have HF := hid hf
  rw [hz, hf] at K
  have HK := hid K
  clear hz hf K h
  cases high with
  | true =>
    simp only [Bool.not_true, Bool.false_and, Bool.false_eq_true, if_false] at HK
    go_enter Tryz.func54, Tryz.ntmps54
    go_wp2_with (first
      | (go_at_call 43; refine oraise_c st HO.out (by omega) (by omega) ?_; rintro w1 s1; obtain ⟨v1, s2⟩ := OvA.open s1)
      | (go_at_call 44; refine send_c (m := kindM 4) ((OwnS.none0 (sz := 1) s2).perm [2, 0]) (by have := HL2.out; omega) ?_; rintro w3 s3; have s4 := OvA.close (O := { raiseO O p with L := (raiseO O p).L ++ [⟨p, kindM 4⟩] }) (s3.perm [1])))
    go_end0
    exact HK.out _ s4
  | false =>
    cases z with
    | true =>
      simp only [Bool.not_true, Bool.not_false, Bool.true_and, Bool.false_and, Bool.false_eq_true, if_false] at HK
      go_enter Tryz.func54, Tryz.ntmps54
      go_wp2_with (first
        | (go_at_call 46; refine isActive_c (St.pick 6 s) ?_; rw [HZ.out])
        | (go_at_call 43; refine oraise_c st HO.out (by omega) (by omega) ?_; rintro w1 s1; obtain ⟨v1, s2⟩ := OvA.open s1)
        | (go_at_call 44; refine send_c (m := kindM 4) ((OwnS.none0 (sz := 1) s2).perm [2, 0]) (by have := HL2.out; omega) ?_; rintro w3 s3; have s4 := OvA.close (O := { raiseO O p with L := (raiseO O p).L ++ [⟨p, kindM 4⟩] }) (s3.perm [1])))
      go_end0
      exact HK.out _ s4
    | false =>
      simp only [Bool.not_false, Bool.true_and] at HK
      cases f with
      | true =>
        simp only [if_true] at HK
        go_enter Tryz.func54, Tryz.ntmps54
        go_wp2_with (first
          | (go_at_call 46; refine isActive_c (St.pick 6 s) ?_; rw [HZ.out])
          | (go_at_call 100; refine vfull_c (St.pick 6 s) ?_; rintro w1 s1; rw [show decide (O.V.am ≤ (O.V.a.length : Int)) = true from HF.out])
          | (go_at_call 44; refine send_c (m := kindM 5) ((OwnS.none0 (sz := 1) s1).perm [3, 0]) (by omega) ?_; rintro w3 s3; have s4 := OvA.close (O := { O with L := O.L ++ [⟨p, kindM 5⟩] }) (s3.perm [2, 0, 1, 1, 1, 1])))
        go_end0
        exact HK.out _ s4
      | false =>
        simp only [Bool.false_eq_true, if_false] at HK
        go_enter Tryz.func54, Tryz.ntmps54
        go_wp2_with (first
          | (go_at_call 46; refine isActive_c (St.pick 6 s) ?_; rw [HZ.out])
          | (go_at_call 100; refine vfull_c (St.pick 6 s) ?_; rintro w1 s1; rw [show decide (O.V.am ≤ (O.V.a.length : Int)) = false from HF.out]; have t := OvA.close (O := O) (v := v) (s1.perm [1, 1, 1, 1, 1, 1, 0, 0]))
          | (go_at_call 43; refine oraise_c t HO.out (by omega) (by omega) ?_; rintro w2 t1; obtain ⟨v1, s2⟩ := OvA.open t1)
          | (go_at_call 44; refine send_c (m := kindM 4) ((OwnS.none0 (sz := 1) s2).perm [2, 0]) (by have := HL2.out; omega) ?_; rintro w3 s3; have s4 := OvA.close (O := { raiseO O p with L := (raiseO O p).L ++ [⟨p, kindM 4⟩] }) (s3.perm [1])))
        go_end0
        exact HK.out _ s4

set_option maxRecDepth 100000 in
set_option maxHeartbeats 4000000 in
theorem learnAll_c {la : Option Addr} {ln lc : Nat} {l : List Int} (st : St W w (OvA b d O :: R)) (h : OOK O) (hr : Rds W R 1 la ln lc (ivs l)) (hn : ln ≤ 4096)
    (K : ∀ w', St W w' (OvA b d (learnAllO O l) :: R) → post (.returned (.tuple #[])) w') : Calls Tryz.prog 57 #[.pointer (some ⟨b, 0, none⟩), .slice la ln lc] w post := by
  have HK := hid K; clear K
  have HO := hid h
  have HRD := hid hr
  have HN : Hid (l.length = ln) := hid (ivs_len (hr _ st.drop))
  clear h hr
  go_enter Tryz.func57, Tryz.ntmps57
  go_wp2_with fail
  go_loopw [8] (fun ii wr => ∃ i : Nat, i ≤ ln ∧ ii = .int .i64 i ∧ St W wr (OvA b d (learnAllO O (l.take i)) :: R)) (fun ii _ => ln - (intOf ii).toNat)
  case atStart => exact ⟨0, Nat.zero_le _, rfl, st⟩
  case round =>
    obtain ⟨i, hi, rfl, sr⟩ := hrel
    by_cases hlt : i < ln
    · have rd := HRD.out _ sr.drop
      obtain ⟨g3, o3, rfl⟩ := rd.addr (by omega)
      have hiA : i < l.length := by rw [HN.out]; exact hlt
      have ci := rd.at (ivs_get hiA)
      have hsn := learnAll_snoc O hiA
      obtain ⟨q, hq⟩ : ∃ q, l[i] = q := ⟨_, rfl⟩
      rw [hq] at ci hsn
      have HS := hid hsn
      obtain ⟨P, hP⟩ : ∃ P, learnAllO O (l.take i) = P := ⟨_, rfl⟩
      have HPO : Hid (OOK P) := hid (by rw [← hP]; exact HO.out.learnAll _)
      rw [hP] at sr HS
      have hi2 : (i : Int) < (ln : Int) := by omega
      obtain ⟨v, t⟩ := OvA.open sr.drew
      have k0 := row1c t
      have k1 := row1c (St.pick 3 t)
      clear hq hsn rd hP hiA
      go_wp2_with fail
      go_region_law (go_simp; go_at_call 47; refine learn_c (t.perm [6, 6]) HPO.out.v ?_; rintro w3 s3)
      all_goals
        have u := OvA.close (O := learnO P q) (v := v) (s3.perm [2, 2, 2, 2, 2, 2, 0, 0])
        go_wp2_with fail
        go_roundw
        case rel => exact ⟨i + 1, by omega, by go_num, by rw [HS.out]; exact u⟩
        case measure => simp [intOf]; omega
    · have hie : i = ln := by omega
      subst hie
      rw [List.take_of_length_le (by rw [HN.out]; exact Nat.le_refl _)] at sr
      go_wp2_with fail
      go_end0
      exact HK.out _ sr

end

end Go.Proofs.YtbpdchaeakihkaaGreat
