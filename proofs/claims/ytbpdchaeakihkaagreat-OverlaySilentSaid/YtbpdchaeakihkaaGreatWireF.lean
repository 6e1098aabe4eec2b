/- wire: slices.IndexFunc, ContainsFunc with a predicate that only reads; all. -/
import Derived.Test.YtbpdchaeakihkaaGreatWireE
namespace Go.Proofs.YtbpdchaeakihkaaGreat
open Go.RowKit Go.Qd

theorem any_snoc {g : Int → Bool} {l : List Int} {i : Nat} (h : i < l.length) : (l.take (i + 1)).any g = ((l.take i).any g || g l[i]) := by
  rw [List.take_succ_eq_append_getElem h, List.any_append]; simp
theorem any_take {g : Int → Bool} {l : List Int} {i : Nat} (h : i < l.length) (hg : g l[i] = true) : l.any g = true :=
  List.any_eq_true.2 ⟨l[i], List.getElem_mem h, hg⟩

section
variable {W w : World} {R : List HP} {post : Ending → World → Prop}

/-- A predicate's value: it tells 'g', and leaves all as it was. -/
def PredF (W : World) (R : List HP) (F : Nat) (cap : Array Value) (g : Int → Bool) : Prop :=
  ∀ (x : Int) (w1 : World) (p1 : Ending → World → Prop), St W w1 R → (∀ w2, St W w2 R → p1 (.returned (.bool (g x))) w2) → Calls Tryz.prog F (#[.int .i64 x] ++ cap) w1 p1

set_option maxRecDepth 100000 in
set_option maxHeartbeats 4000000 in
theorem idxF181_c {p : Value} {g : Int → Bool} {a : Option Addr} {n c : Nat} {ps : List Int} (hp : Rds W R 1 a n c (ivs ps)) (hn : n ≤ 4096) (hf : PredF W R 181 #[p] g) (st : St W w R)
    (K : ∀ w' r, St W w' R → decide (0 ≤ r) = ps.any g → post (.returned (.int .i64 r)) w') : Calls Tryz.prog 149 #[.slice a n c, .func (.func 181) #[] #[p]] w post := by
  have HK := hid K; clear K
  have HF := hid hf; clear hf
  have HN : Hid (ps.length = n) := hid (by have := (hp w st).len; simp [ivs] at this; omega)
  go_enter Tryz.func149, Tryz.ntmps149
  go_wp2_with fail
  go_loopw [8] (fun ii wr => ∃ i : Nat, i ≤ n ∧ ii = .int .i64 i ∧ (ps.take i).any g = false ∧ St W wr R) (fun ii _ => n - (intOf ii).toNat)
  case atStart => exact ⟨0, Nat.zero_le _, rfl, rfl, st⟩
  case round =>
    obtain ⟨i, hi, rfl, hg, sr⟩ := hrel
    have HG := hid hg; clear hg
    by_cases hlt : i < n
    · have rd := hp _ sr
      obtain ⟨g3, o3, rfl⟩ := rd.addr (by omega)
      have hiA : i < ps.length := by rw [HN.out]; exact hlt
      have ci := rd.at (ivs_get hiA)
      have HS := hid (any_snoc (g := g) hiA)
      have hT := any_take (g := g) hiA
      obtain ⟨q, hq⟩ : ∃ q, ps[i] = q := ⟨_, rfl⟩
      rw [hq] at ci HS hT
      obtain ⟨b, hb⟩ : ∃ b, g q = b := ⟨_, rfl⟩
      have HB := hid hb
      have HT : Hid (b = true → ps.any g = true) := hid (fun h => hT (by rw [hb, h]))
      rw [hb] at HS
      clear hq hb rd hT
      have hi2 : (i : Int) < (n : Int) := by omega
      cases b with
      | true =>
        have HA := hid (HT.out rfl)
        clear HT
        go_wp2_with (go_at_call 181; refine HF.out q _ _ sr ?_; rintro w6 s6; rw [HB.out])
        exact HK.out _ _ s6 (by rw [HA.out]; exact decide_eq_true (by omega))
      | false =>
        go_wp2_with (go_at_call 181; refine HF.out q _ _ sr ?_; rintro w6 s6; rw [HB.out])
        go_roundw
        case rel => exact ⟨i + 1, by omega, by go_num, by rw [HS.out, HG.out]; rfl, s6⟩
        case measure => simp [intOf]; omega
    · have hie : i = n := by omega
      subst hie
      have hg := HG.out
      rw [List.take_of_length_le (by rw [HN.out]; exact Nat.le_refl _)] at hg
      have HG2 := hid hg; clear hg
      go_wp2_with fail
      exact HK.out _ _ sr (by rw [HG2.out]; rfl)

set_option maxRecDepth 100000 in
set_option maxHeartbeats 4000000 in
theorem contF181_c {p : Value} {g : Int → Bool} {a : Option Addr} {n c : Nat} {ps : List Int} (hp : Rds W R 1 a n c (ivs ps)) (hn : n ≤ 4096) (hf : PredF W R 181 #[p] g) (st : St W w R)
    (K : ∀ w', St W w' R → post (.returned (.bool (ps.any g))) w') : Calls Tryz.prog 94 #[.slice a n c, .func (.func 181) #[] #[p]] w post := by
  have HK := hid K; clear K
  go_enter Tryz.func94, Tryz.ntmps94
  go_wp2_with (go_at_call 149; refine idxF181_c hp hn hf st ?_; rintro w2 r s2 hr)
  exact HK.out _ s2
set_option maxRecDepth 100000 in
set_option maxHeartbeats 4000000 in
theorem idxF95_c {p : Value} {g : Int → Bool} {a : Option Addr} {n c : Nat} {ps : List Int} (hp : Rds W R 1 a n c (ivs ps)) (hn : n ≤ 4096) (hf : PredF W R 95 #[p] g) (st : St W w R)
    (K : ∀ w' r, St W w' R → decide (0 ≤ r) = ps.any g → post (.returned (.int .i64 r)) w') : Calls Tryz.prog 149 #[.slice a n c, .func (.func 95) #[] #[p]] w post := by
  have HK := hid K; clear K
  have HF := hid hf; clear hf
  have HN : Hid (ps.length = n) := hid (by have := (hp w st).len; simp [ivs] at this; omega)
  go_enter Tryz.func149, Tryz.ntmps149
  go_wp2_with fail
  go_loopw [8] (fun ii wr => ∃ i : Nat, i ≤ n ∧ ii = .int .i64 i ∧ (ps.take i).any g = false ∧ St W wr R) (fun ii _ => n - (intOf ii).toNat)
  case atStart => exact ⟨0, Nat.zero_le _, rfl, rfl, st⟩
  case round =>
    obtain ⟨i, hi, rfl, hg, sr⟩ := hrel
    have HG := hid hg; clear hg
    by_cases hlt : i < n
    · have rd := hp _ sr
      obtain ⟨g3, o3, rfl⟩ := rd.addr (by omega)
      have hiA : i < ps.length := by rw [HN.out]; exact hlt
      have ci := rd.at (ivs_get hiA)
      have HS := hid (any_snoc (g := g) hiA)
      have hT := any_take (g := g) hiA
      obtain ⟨q, hq⟩ : ∃ q, ps[i] = q := ⟨_, rfl⟩
      rw [hq] at ci HS hT
      obtain ⟨b, hb⟩ : ∃ b, g q = b := ⟨_, rfl⟩
      have HB := hid hb
      have HT : Hid (b = true → ps.any g = true) := hid (fun h => hT (by rw [hb, h]))
      rw [hb] at HS
      clear hq hb rd hT
      have hi2 : (i : Int) < (n : Int) := by omega
      cases b with
      | true =>
        have HA := hid (HT.out rfl)
        clear HT
        go_wp2_with (go_at_call 95; refine HF.out q _ _ sr ?_; rintro w6 s6; rw [HB.out])
        exact HK.out _ _ s6 (by rw [HA.out]; exact decide_eq_true (by omega))
      | false =>
        go_wp2_with (go_at_call 95; refine HF.out q _ _ sr ?_; rintro w6 s6; rw [HB.out])
        go_roundw
        case rel => exact ⟨i + 1, by omega, by go_num, by rw [HS.out, HG.out]; rfl, s6⟩
        case measure => simp [intOf]; omega
    · have hie : i = n := by omega
      subst hie
      have hg := HG.out
      rw [List.take_of_length_le (by rw [HN.out]; exact Nat.le_refl _)] at hg
      have HG2 := hid hg; clear hg
      go_wp2_with fail
      exact HK.out _ _ sr (by rw [HG2.out]; rfl)

set_option maxRecDepth 100000 in
set_option maxHeartbeats 4000000 in
theorem contF95_c {p : Value} {g : Int → Bool} {a : Option Addr} {n c : Nat} {ps : List Int} (hp : Rds W R 1 a n c (ivs ps)) (hn : n ≤ 4096) (hf : PredF W R 95 #[p] g) (st : St W w R)
    (K : ∀ w', St W w' R → post (.returned (.bool (ps.any g))) w') : Calls Tryz.prog 94 #[.slice a n c, .func (.func 95) #[] #[p]] w post := by
  have HK := hid K; clear K
  go_enter Tryz.func94, Tryz.ntmps94
  go_wp2_with (go_at_call 149; refine idxF95_c hp hn hf st ?_; rintro w2 r s2 hr)
  exact HK.out _ s2
end

end Go.Proofs.YtbpdchaeakihkaaGreat
