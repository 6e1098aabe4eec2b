/- The reference's Draw and Pick. -/
import Derived.Test.YtbpdchaeakihkaaGreatTv
namespace Go.Proofs.YtbpdchaeakihkaaGreat
open Go.RowKit Go.Qd

theorem emod_twice (x n : Int) : (x.tmod n + n) % n = x % n := by
  rw [Int.add_emod_right, tmod_mod]

theorem refDraw_c {W w : World} {R : List HP} {post : Ending → World → Prop} {ao : Option Addr} {m c : Nat} {l : List Int} {n : Int} (st : St W w (RdH W 1 ao m c (ivs l) :: R)) (hn : n ≤ 4611686018427387904)
    (K : ∀ ao' c' q, St W (w.drewN q) (RdH W 1 ao' (drawL l n).length c' (ivs (drawL l n)) :: R) → post (.returned (.tuple #[.slice ao' (drawL l n).length c', .int .i64 (drawV l n)])) (w.drewN q)) :
    Calls Tryz.prog 163 #[.slice ao m c, .int .i64 n] w post := by
  have HK := hid K; clear K
  have rd := RdH.rd st
  have hm : l.length = m := ivs_len rd
  have hbig := rd.big
  by_cases h1 : n < 1
  · have e1 : drawL l n = l := by cases l <;> simp [drawL, h1]
    have e2 : drawV l n = 0 := by cases l <;> simp [drawV, h1]
    rw [e1, e2, hm] at HK
    clear e1 e2
    have HK2 := hid (HK.out ao c 0 st)
    clear HK hm
    go_enter Tryz.func163, Tryz.ntmps163
    go_wp2
    exact HK2.out
  · cases l with
    | nil =>
      subst hm
      have HK2 := hid (HK.out ao c 0 st)
      clear HK
      go_enter Tryz.func163, Tryz.ntmps163
      go_wp2
      exact HK2.out
    | cons x r =>
      have h2 : drawL (x :: r) n = r := by simp [drawL, h1]
      have h3 : drawV (x :: r) n = x % n := by simp [drawV, h1]
      rw [h2, h3] at HK
      clear h2 h3
      have hn1 : r.length + 1 = m := by simpa using hm
      clear hm
      obtain ⟨g, o, rfl⟩ := rd.addr (by omega)
      have hx : w.cell? ⟨g, o, none⟩ = some (.int .i64 x) := rd.at (i := 0) rfl
      obtain ⟨ax, cx, ht, e2⟩ := run_slice_from Tryz.elem24 (some ⟨g, o, none⟩) m c 1 r.length (i := (1 : Int)) rfl hn1
      have s2 := RdH.tail st hn1 ht
      have hb := tmod_lo (x := x) (n := n) (by omega)
      have HE := hid (emod_twice x n)
      have hm0 : (0 : Int) < (m : Int) := by omega
      have hmz : ((m : Int) == 0) = false := by simp; omega
      have hw1 : IntKind.i64.wrap (x.tmod n + n) = x.tmod n + n := IntWalk.i64_in _ (by omega)
      have HN := hid hn1
      clear hn1
      go_enter Tryz.func163, Tryz.ntmps163
      go_wp2
      go_quiet (fail)
      go_wp2
      have k := HK.out ax cx nq (by have := s2.drewN nq; rwa [Nat.one_mul] at this)
      rw [← HE.out] at k
      exact k

theorem refPick_c {W w : World} {R : List HP} {post : Ending → World → Prop} {ao ap : Option Addr} {m c n d : Nat} {l zs : List Int} (st : St W w (RdH W 1 ao m c (ivs l) :: R)) (rds : Rds W R 1 ap n d (ivs zs))
    (hn : n ≤ 4611686018427387904)
    (K : ∀ ao' c' q, St W (w.drewN q) (RdH W 1 ao' (if zs = [] then l else drawL l zs.length).length c' (ivs (if zs = [] then l else drawL l zs.length)) :: R) →
      post (.returned (.tuple #[.slice ao' (if zs = [] then l else drawL l zs.length).length c', .int .i64 (if zs = [] then 0 else pickV l zs), .bool (!zs.isEmpty)])) (w.drewN q)) :
    Calls Tryz.prog 128 #[.slice ao m c, .slice ap n d] w post := by
  have HK := hid K; clear K
  have r0 := rds w st.drop
  have rl := RdH.rd st
  have hm : l.length = m := ivs_len rl
  have hz0 : zs.length = n := ivs_len r0
  have HN := hid hz0
  have hbig := r0.big
  rcases Nat.eq_zero_or_pos n with h0 | h0
  · subst h0
    have hz : zs = [] := List.eq_nil_of_length_eq_zero hz0
    subst hz
    simp only [if_true, List.isEmpty_nil, Bool.not_true, hm] at HK
    have k := hid (HK.out ao c 0 st)
    clear HK hm hz0
    go_enter Tryz.func128, Tryz.ntmps128
    go_wp2
    go_ret3
    exact k.out
  · have hz : zs ≠ [] := fun h => by subst h; simp at hz0; omega
    have hz' : zs.isEmpty = false := by cases zs <;> simp at hz ⊢
    simp only [if_neg hz, hz', hz0, Bool.not_false] at HK
    obtain ⟨g, o, rfl⟩ := r0.addr h0
    have hr := drawV_range (l := l) (n := (n : Int)) (by omega)
    obtain ⟨k, hk⟩ := Int.eq_ofNat_of_zero_le hr.1
    have hkn : k < n := by rw [hk] at hr; omega
    have hkl : k < zs.length := by omega
    have hv : pickV l zs = zs[k] := by
      unfold pickV; rw [hz0, hk]; simp [List.getD, hkl]
    rw [hv] at HK
    have HH := hid hk
    have hc0 := r0.at (ivs_get hkl)
    have hmz : ((n : Int) == 0) = false := by simp; omega
    clear hr hk hv hz0 hz hz' hm
    go_enter Tryz.func128, Tryz.ntmps128
    go_wp2_with (go_at_call 163; refine refDraw_c st (by omega) ?_; rintro a2 c2 q s2; rw [HH.out])
    go_quiet (fail)
    go_wp2
    have k2 := HK.out a2 c2 (q + nq) (by rw [← World.drewN_drewN]; exact s2.drewN nq)
    rw [← World.drewN_drewN] at k2
    go_ret3
    exact k2

end Go.Proofs.YtbpdchaeakihkaaGreat
