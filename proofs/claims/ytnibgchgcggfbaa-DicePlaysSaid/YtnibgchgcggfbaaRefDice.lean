/- The reference's Draw, Pick and Some. -/
import Derived.Test.YtnibgchgcggfbaaDiceC
import Derived.Test.YtnibgchgcggfbaaWithout
namespace Go.Proofs.Ytnibgchgcggfbaa
open Go.RowKit Go.Qd

theorem emod_twice (x n : Int) : (x.tmod n + n) % n = x % n := by
  rw [Int.add_emod_right, tmod_mod]

theorem refDraw_c {W w : World} {R : List HP} {post : Ending → World → Prop} {ao : Option Addr} {m c : Nat} {l : List Int} {n : Int} (st : St W w (RdH W 1 ao m c (ivs l) :: R)) (hn : n ≤ 4611686018427387904)
    (K : ∀ ao' c' q, St W (w.drewN q) (RdH W 1 ao' (drawL l n).length c' (ivs (drawL l n)) :: R) → post (.returned (.tuple #[.slice ao' (drawL l n).length c', .int .i64 (drawV l n)])) (w.drewN q)) :
    Calls Try.prog 18 #[.slice ao m c, .int .i64 n] w post := by
  have HK := hid K; clear K
  have rd := RdH.rd st
  have hm : l.length = m := ivs_len rd
  have hbig := rd.big
  by_cases h1 : n < 1
  · have e1 : drawL l n = l := by cases l <;> simp [drawL, h1]
    have e2 : drawV l n = 0 := by cases l <;> simp [drawV, h1]
    rw [e1, e2, hm] at HK
    clear e1 e2
    have HK2 := hid (HK.out ao c 0 st)
    clear HK hm
    go_enter Try.func18, Try.ntmps18
    go_wp2
    exact HK2.out
  · cases l with
    | nil =>
      subst hm
      have HK2 := hid (HK.out ao c 0 st)
      clear HK
      go_enter Try.func18, Try.ntmps18
      go_wp2
      exact HK2.out
    | cons x r =>
      have h2 : drawL (x :: r) n = r := by simp [drawL, h1]
      have h3 : drawV (x :: r) n = x % n := by simp [drawV, h1]
      rw [h2, h3] at HK
      clear h2 h3
      have hn1 : r.length + 1 = m := by simpa using hm
      clear hm
      obtain ⟨g, o, rfl⟩ := rd.addr (by omega)
      have hx : w.cell? ⟨g, o, none⟩ = some (.int .i64 x) := rd.at (i := 0) rfl
      obtain ⟨ax, cx, ht, e2⟩ := run_slice_from Try.elem22 (some ⟨g, o, none⟩) m c 1 r.length (i := (1 : Int)) rfl hn1
      have s2 := RdH.tail st hn1 ht
      have hb := tmod_lo (x := x) (n := n) (by omega)
      have HE := hid (emod_twice x n)
      have hm0 : (0 : Int) < (m : Int) := by omega
      have hmz : ((m : Int) == 0) = false := by simp; omega
      have hw1 : IntKind.i64.wrap (x.tmod n + n) = x.tmod n + n := IntWalk.i64_in _ (by omega)
      have HN := hid hn1
      clear hn1
      go_enter Try.func18, Try.ntmps18
      go_wp2
      go_quiet (fail)
      go_wp2
      have k := HK.out ax cx nq (by have := s2.drewN nq; rwa [Nat.one_mul] at this)
      rw [← HE.out] at k
      exact k

theorem refPick_c {W w : World} {R : List HP} {post : Ending → World → Prop} {ao ap : Option Addr} {m c n d : Nat} {l zs : List Int} (st : St W w (RdH W 1 ao m c (ivs l) :: R)) (rds : Rds W R 1 ap n d (ivs zs))
    (hn : n ≤ 4611686018427387904)
    (K : ∀ ao' c' q, St W (w.drewN q) (RdH W 1 ao' (if zs = [] then l else drawL l zs.length).length c' (ivs (if zs = [] then l else drawL l zs.length)) :: R) →
      post (.returned (.tuple #[.slice ao' (if zs = [] then l else drawL l zs.length).length c', .int .i64 (if zs = [] then 0 else pickV l zs), .bool (!zs.isEmpty)])) (w.drewN q)) :
    Calls Try.prog 15 #[.slice ao m c, .slice ap n d] w post := by
  have HK := hid K; clear K
  have r0 := rds w st.drop
  have rl := RdH.rd st
  have hm : l.length = m := ivs_len rl
  have hz0 : zs.length = n := ivs_len r0
  have HN := hid hz0
  have hbig := r0.big
  rcases Nat.eq_zero_or_pos n with h0 | h0
  · subst h0
    have hz : zs = [] := List.eq_nil_of_length_eq_zero hz0
    subst hz
    simp only [if_true, List.isEmpty_nil, Bool.not_true, hm] at HK
    have k := hid (HK.out ao c 0 st)
    clear HK hm hz0
    go_enter Try.func15, Try.ntmps15
    go_wp2
    go_ret3
    exact k.out
  · have hz : zs ≠ [] := fun h => by subst h; simp at hz0; omega
    have hz' : zs.isEmpty = false := by cases zs <;> simp at hz ⊢
    simp only [if_neg hz, hz', hz0, Bool.not_false] at HK
    obtain ⟨g, o, rfl⟩ := r0.addr h0
    have hr := drawV_range (l := l) (n := (n : Int)) (by omega)
    obtain ⟨k, hk⟩ := Int.eq_ofNat_of_zero_le hr.1
    have hkn : k < n := by rw [hk] at hr; omega
    have hkl : k < zs.length := by omega
    have hv : pickV l zs = zs[k] := by
      unfold pickV; rw [hz0, hk]; simp [List.getD, hkl]
    rw [hv] at HK
    have HH := hid hk
    have hc0 := r0.at (ivs_get hkl)
    have hmz : ((n : Int) == 0) = false := by simp; omega
    clear hr hk hv hz0 hz hz' hm
    go_enter Try.func15, Try.ntmps15
    go_wp2_with (go_at_call 18; refine refDraw_c st (by omega) ?_; rintro a2 c2 q s2; rw [HH.out])
    go_quiet (fail)
    go_wp2
    have k2 := HK.out a2 c2 (q + nq) (by rw [← World.drewN_drewN]; exact s2.drewN nq)
    rw [← World.drewN_drewN] at k2
    go_ret3
    exact k2

set_option maxHeartbeats 400000 in
theorem refSome_c {W w : World} {R : List HP} {post : Ending → World → Prop} {ao ap : Option Addr} {m0 c0 n0 d0 : Nat} {l zs : List Int} {k : Int} (st : St W w (RdH W 1 ao m0 c0 (ivs l) :: RdH W 1 ap n0 d0 (ivs zs) :: R))
    (hb : n0 * 8 ≤ 140737488355328 - 8)
    (K : ∀ a1 c1 a2 c2 w', St W w' (RdH W 1 a1 (someF k.toNat l zs).1.length c1 (ivs (someF k.toNat l zs).1) :: OwnS 1 a2 (someF k.toNat l zs).2.1.length c2 (ivs (someF k.toNat l zs).2.1) :: R) →
      post (.returned (.tuple #[.slice a1 (someF k.toNat l zs).1.length c1, .slice a2 (someF k.toNat l zs).2.1.length c2])) w') :
    Calls Try.prog 16 #[.slice ao m0 c0, .slice ap n0 d0, .int .i64 k] w post := by
  have HK := hid K; clear K
  have hl0 : l.length = m0 := ivs_len (RdH.rd st)
  have hz0 : zs.length = n0 := ivs_len (RdH.rd (St.pick 1 st))
  have HL := hid hl0
  have HZ := hid hz0
  clear hl0 hz0
  have s1 : St W (w.alloc (.cells #[] 3)) (OwnS 1 (some ⟨w.heap.size, 0, none⟩) 0 0 (ivs []) :: RdH W 1 ao m0 c0 (ivs l) :: RdH W 1 ap n0 d0 (ivs zs) :: R) := OwnS.empty (st.alloc #[] 3).drop _
  go_enter Try.func16, Try.ntmps16
  go_wp2_with fail
  go_loopw [0, 1, 8] (fun lv rest out wr => ∃ (al ar ax : Option Addr) (nl cl n c m d : Nat) (L O Q : List Int), lv = .slice al nl cl ∧ rest = .slice ar n c ∧ out = .slice ax m d ∧ Hid (L.length = nl) ∧ Hid (Q.length = n) ∧ Hid (O.length = m) ∧
      n + m ≤ n0 ∧ SomeAt k.toNat l zs L O Q ∧ St W wr (RdH W 1 al nl cl (ivs L) :: RdH W 1 ar n c (ivs Q) :: OwnS 1 ax m d (ivs O) :: R)) (fun _ rest _ _ => slen rest)
  case atStart => exact ⟨ao, ap, _, m0, c0, n0, d0, 0, 0, l, [], zs, rfl, rfl, rfl, HL, HZ, hid rfl, by omega, SomeAt.start _ _ _, St.perm [1, 1, 0] s1⟩
  case round =>
    obtain ⟨al, ar, ax, nl, cl, n, c, m, d, L, O, Q, rfl, rfl, rfl, hL, hQ, hO, hnm, hat, sr⟩ := hrel
    by_cases h1 : (m : Int) < k
    · rcases Nat.eq_zero_or_pos n with h2 | h2
      · subst h2
        have hq : Q = [] := List.eq_nil_of_length_eq_zero hQ.out
        subst hq
        have he := SomeAt.stop2 hat
        rw [he] at HK
        dsimp only at HK
        rw [hL.out, hO.out] at HK
        have hk := HK.out al cl ax d wr ((St.pick 1 (St.pick 1 sr).drop) |> fun s => St.pick 1 s)
        have HK2 := hid hk
        clear hk HK he
        go_wp2
        exact HK2.out
      · obtain ⟨g, o, rfl⟩ := (RdH.rd (St.pick 1 sr)).addr h2
        have hr := drawV_range (l := L) (n := (n : Int)) (by omega)
        obtain ⟨q, hq⟩ := Int.eq_ofNat_of_zero_le hr.1
        have hqn : q < n := by rw [hq] at hr; omega
        have hql : q < Q.length := by rw [hQ.out]; exact hqn
        have hv : Q[q] = pickV L Q := by
          unfold pickV; rw [hQ.out, hq]; simp [List.getD, hql]
        have hstep := SomeAt.step hat (by have := hO.out; omega) (fun h => by subst h; simp at hql)
        rw [hQ.out, hq, Int.toNat_natCast] at hstep
        have HS := hid hstep
        have hqh := hid hq
        have hvh := hid hv
        clear hr hq hstep hv hat
        have hm1 : m + 1 ≤ maxLen := by unfold maxLen; omega
        have hon : ∀ u ∈ [iv (pickV L Q)], u.oneCell' = true := by simp [Value.oneCell']
        go_wp2_with (first
          | (go_at_call 18; refine refDraw_c sr (by omega) ?_; rintro a2 c2 qq s2; rw [hqh.out]; have hc := (RdH.rd (St.pick 1 s2)).at (ivs_get hql); rw [hvh.out] at hc)
          | (at_builtin; have s3 := St.alloc s2 #[.int .i64 (pickV L Q)] 3; have r3 := St.rowRd (sz := 1) s3 (n := 1) rfl (by decide) hon; have s4 := St.pick 3 s3; refine wpl_append rfl _ _ rfl Try.elem22 rfl rfl s4 r3 (by omega) hm1 ?_; rintro a5 c5 w5 s5)
          | (go_at_call 12; refine without_c (St.pick 3 s5) RdH.rds hqn (by omega) ?_; rintro a6 c6 w6 s6))
        refine ⟨⟨a2, a6, a5, _, c2, n - 1, c6, m + 1, c5, _, _, _, rfl, rfl, rfl, hid rfl, ?_, ?_, by omega, HS.out, ?_⟩, by simp [slen]; omega⟩
        · rw [List.length_eraseIdx, if_pos hql, hQ.out]; exact hid rfl
        · rw [List.length_append, hO.out]; exact hid rfl
        · rw [ivs_append]
          have s7 := (St.pick 2 (St.pick 1 s6).drop).drop
          exact (RdH.own s7).perm [2, 0, 0]
    · have he := SomeAt.stop1 hat (by have := hO.out; omega)
      rw [he] at HK
      dsimp only at HK
      rw [hL.out, hO.out] at HK
      have hk := HK.out al cl ax d wr (St.pick 1 (St.pick 1 (St.pick 1 sr).drop))
      have HK2 := hid hk
      clear hk HK he
      go_wp2
      exact HK2.out

end Go.Proofs.Ytnibgchgcggfbaa
