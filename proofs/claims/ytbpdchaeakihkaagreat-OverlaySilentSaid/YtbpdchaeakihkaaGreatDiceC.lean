/- The dice: Some. -/
import Derived.Test.YtbpdchaeakihkaaGreatDiceB
import Derived.Test.YtbpdchaeakihkaaGreatDel
namespace Go.Proofs.YtbpdchaeakihkaaGreat
open Go.RowKit Go.Qd

theorem delete_c {W w : World} {R : List HP} {post : Ending → World → Prop} {ao : Option Addr} {n c : Nat} {zs : List Int} {i : Nat} (st : St W w (OwnS 1 ao n c (ivs zs) :: R)) (hi : i < n) (hb : n * 8 ≤ 140737488355328)
    (K : ∀ ao' c' w', St W w' (OwnS 1 ao' (n - 1) c' (ivs (zs.eraseIdx i)) :: R) → post (.returned (.slice ao' (n - 1) c')) w') :
    Calls Tryz.prog 139 #[.slice ao n c, .int .i64 i, .int .i64 (i + 1)] w post := by
  have hcs : (ivs zs).take (i * 1) ++ (ivs zs).drop ((i + 1) * 1) = ivs (zs.eraseIdx i) := by
    rw [Nat.mul_one, Nat.mul_one, List.eraseIdx_eq_take_drop_succ]; simp only [ivs, ← List.map_take, ← List.map_drop, ← List.map_append]
  exact deleteI_c st hi hb fun a c w s => K a c w (by rw [hcs] at s; exact s)

/-- What Some does to the numbers, and what it gives: (the numbers left, what was drawn, what was not). -/
def someF : Nat → List Int → List Int → List Int × List Int × List Int
  | 0, l, rest => (l, [], rest)
  | k + 1, l, rest => if rest = [] then (l, [], []) else
    let r := someF k (drawL l rest.length) (rest.eraseIdx (drawV l rest.length).toNat)
    (r.1, pickV l rest :: r.2.1, r.2.2)

theorem someF_nil (k : Nat) (l : List Int) : someF k l [] = (l, [], []) := by cases k <;> simp [someF]
theorem someF_step (k : Nat) (l rest : List Int) (h : rest ≠ []) : someF (k + 1) l rest =
    ((someF k (drawL l rest.length) (rest.eraseIdx (drawV l rest.length).toNat)).1, pickV l rest :: (someF k (drawL l rest.length) (rest.eraseIdx (drawV l rest.length).toNat)).2.1,
      (someF k (drawL l rest.length) (rest.eraseIdx (drawV l rest.length).toNat)).2.2) := by
  rw [someF, if_neg h]

/-- Where the loop stands. -/
def SomeAt (K : Nat) (l zs L O Q : List Int) : Prop := O.length ≤ K ∧ someF K l zs = ((someF (K - O.length) L Q).1, O ++ (someF (K - O.length) L Q).2.1, (someF (K - O.length) L Q).2.2)

theorem SomeAt.start (K : Nat) (l zs : List Int) : SomeAt K l zs l [] zs := ⟨Nat.zero_le _, by simp⟩
theorem SomeAt.step {K : Nat} {l zs L O Q : List Int} (h : SomeAt K l zs L O Q) (h1 : O.length < K) (h2 : Q ≠ []) :
    SomeAt K l zs (drawL L Q.length) (O ++ [pickV L Q]) (Q.eraseIdx (drawV L Q.length).toNat) := by
  refine ⟨by simp; omega, ?_⟩
  have e : K - O.length = (K - (O ++ [pickV L Q]).length) + 1 := by simp; omega
  rw [h.2, e, someF_step _ _ _ h2]
  simp
theorem SomeAt.stop1 {K : Nat} {l zs L O Q : List Int} (h : SomeAt K l zs L O Q) (h1 : ¬ O.length < K) : someF K l zs = (L, O, Q) := by
  have e : K - O.length = 0 := by have := h.1; omega
  rw [h.2, e]
  simp [someF]
theorem SomeAt.stop2 {K : Nat} {l zs L O : List Int} (h : SomeAt K l zs L O []) : someF K l zs = (L, O, []) := by
  rw [h.2, someF_nil]
  simp

set_option maxHeartbeats 400000 in
theorem some_c {W w : World} {R : List HP} {post : Ending → World → Prop} {b : Nat} {l : List Int} {ax : Option Addr} {nx cx : Nat} {zs : List Int} {k : Int} (st : St W w (DiceA b l :: R))
    (rd : RdS w 1 ax nx cx (ivs zs)) (hb : nx * 8 ≤ 140737488355328 - 8)
    (K : ∀ ao n c w', St W w' (OwnS 1 ao n c (ivs (someF k.toNat l zs).2.1) :: DiceA b (someF k.toNat l zs).1 :: R) → post (.returned (.slice ao n c)) w') :
    Calls Tryz.prog 92 #[.pointer (some ⟨b, 0, none⟩), .slice ax nx cx, .int .i64 k] w post := by
  have HK := hid K; clear K
  have hz0 : zs.length = nx := by have := rd.len; simpa [ivs] using this
  have HZ := hid hz0
  go_enter Tryz.func92, Tryz.ntmps92
  go_wp2_with (go_at_call 41; refine clone_c st rd (by omega) ?_; rintro a1 c1 w1 s1)
  go_loopw [7, 8] (fun rest out wr => ∃ (ao ap : Option Addr) (n c m d : Nat) (L O Q : List Int), rest = .slice ao n c ∧ out = .slice ap m d ∧ Hid (Q.length = n) ∧ Hid (O.length = m) ∧ n + m ≤ nx ∧ SomeAt k.toNat l zs L O Q ∧
      St W wr (DiceA b L :: OwnS 1 ao n c (ivs Q) :: OwnS 1 ap m d (ivs O) :: R)) (fun rest _ _ => slen rest)
  case atStart => exact ⟨a1, none, nx, c1, 0, 0, l, [], zs, rfl, rfl, hid hz0, hid rfl, by omega, SomeAt.start _ _ _, (St.perm [2, 1] (OwnS.none0 s1))⟩
  case round =>
    obtain ⟨ao, ap, n, c, m, d, L, O, Q, rfl, rfl, hQ, hO, hnm, hat, sr⟩ := hrel
    by_cases h1 : (m : Int) < k
    · rcases Nat.eq_zero_or_pos n with h2 | h2
      · subst h2
        have hq : Q = [] := List.eq_nil_of_length_eq_zero hQ.out
        subst hq
        have he := SomeAt.stop2 hat
        have hk := HK.out ap m d wr (by rw [he]; exact (St.pick 1 (St.pick 1 sr).drop))
        have HK2 := hid hk
        clear hk HK he
        go_wp2
        exact HK2.out
      · obtain ⟨g, o, rfl⟩ := (OwnS.rd (St.pick 1 sr)).addr h2
        have hr := drawV_range (l := L) (n := (n : Int)) (by omega)
        obtain ⟨q, hq⟩ := Int.eq_ofNat_of_zero_le hr.1
        have hqn : q < n := by rw [hq] at hr; omega
        have hql : q < Q.length := by rw [hQ.out]; exact hqn
        have hv : Q[q] = pickV L Q := by
          unfold pickV; rw [hQ.out, hq]; simp [List.getD, hql]
        have hstep := SomeAt.step hat (by have := hO.out; omega) (fun h => by subst h; simp at hql)
        rw [hQ.out, hq, Int.toNat_natCast] at hstep
        have HS := hid hstep
        have hqh := hid hq
        have hvh := hid hv
        clear hr hq hstep hv hat
        have hm1 : m + 1 ≤ maxLen := by unfold maxLen; omega
        have hon : ∀ u ∈ [iv (pickV L Q)], u.oneCell' = true := by simp [Value.oneCell']
        go_wp2_with (first
          | (go_at_call 138; refine draw_c sr (by omega) ?_; rintro w2 s2; rw [hqh.out]; have hc := (OwnS.rd (St.pick 1 s2)).at (ivs_get hql); rw [hvh.out] at hc)
          | (at_builtin; have s3 := St.alloc s2 #[.int .i64 (pickV L Q)] 3; have r3 := St.rowRd (sz := 1) s3 (n := 1) rfl (by decide) hon; have s4 := St.pick 3 s3; refine wpl_append rfl _ _ rfl Tryz.elem24 rfl rfl s4 r3 (by omega) hm1 ?_; rintro a5 c5 w5 s5)
          | (go_at_call 139; refine delete_c (St.pick 3 s5) hqn (by omega) ?_; rintro a6 c6 w6 s6))
        refine ⟨⟨a6, a5, n - 1, c6, m + 1, c5, _, _, _, rfl, rfl, ?_, ?_, by omega, HS.out, ?_⟩, by simp [slen]; omega⟩
        · rw [List.length_eraseIdx, if_pos hql, hQ.out]; exact hid rfl
        · rw [List.length_append, hO.out]; exact hid rfl
        · rw [ivs_append]; exact (s6.pick 2).drop.perm [2, 0, 0]
    · have he := SomeAt.stop1 hat (by have := hO.out; omega)
      have hk := HK.out ap m d wr (by rw [he]; exact (St.pick 1 (St.pick 1 sr).drop))
      have HK2 := hid hk
      clear hk HK he
      go_wp2
      exact HK2.out

end Go.Proofs.YtbpdchaeakihkaaGreat
