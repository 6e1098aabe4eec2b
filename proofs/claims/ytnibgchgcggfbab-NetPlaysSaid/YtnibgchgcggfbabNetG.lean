/- net: Turn. -/
import Derived.Test.YtnibgchgcggfbabNetF
namespace Go.Proofs.Ytnibgchgcggfbab
open Go.RowKit Go.Qd

theorem turn_no {W w : World} {R : List HP} {post : Ending → World → Prop} {b : Nat} {N : NetV} {i at_ : Int} {z : Int} (st : St W w (NetA b N :: R)) (h : hasB N i = false)
    (K : post (.returned (.int .i64 3)) w) : Calls Try.prog 22 #[.pointer (some ⟨b, 0, none⟩), .int .i64 i, .int .i64 at_, .int .u8 z] w post := by
  have HK := hid K; clear K
  have HH := hid h; clear h
  go_enter Try.func22, Try.ntmps22
  go_wp2_with (go_at_call 27; refine has_c st ?_; rw [HH.out])
  exact HK.out

/-- What a turn that changes nothing tells. -/
def turnE (P : PV) (at_ z : Int) : Int := if P.sp then 13 else if at_ < 0 ∨ (P.n : Int) ≤ at_ then 2 else if z = 0 then 1 else 0

set_option maxHeartbeats 1600000 in
theorem turn_same {W w : World} {R : List HP} {post : Ending → World → Prop} {b : Nat} {N : NetV} {i : Nat} {at_ z : Int} (st : St W w (NetA b N :: R)) (h : i < N.ps.length) (he : turnE N.ps[i] at_ z ≠ 0)
    (K : post (.returned (.int .i64 (turnE N.ps[i] at_ z))) w) : Calls Try.prog 22 #[.pointer (some ⟨b, 0, none⟩), .int .i64 i, .int .i64 at_, .int .u8 z] w post := by
  have HK := hid K; clear K
  have HH := hid (hasB_yes h)
  obtain ⟨al, n, c, m, s⟩ := NetA.open st
  obtain ⟨_, _, h2, _, _⟩ := net5 s
  have rd := OwnS.rd (St.pick 1 s)
  have hl := pcells_len rd
  have hin : i < n := by omega
  have hbig := rd.big
  obtain ⟨g, o, rfl⟩ := rd.addr (by omega)
  obtain ⟨c0, c1, c2, c3⟩ := parcel4 rd h
  obtain ⟨p, hp⟩ : ∃ p, N.ps[i] = p := ⟨_, rfl⟩
  rw [hp] at c0 c1 c2 c3 HK he
  clear hp
  obtain ⟨pf, pt, pa, pn, pc, pbs, psp⟩ := p
  dsimp only at c0 c1 c2 c3
  have hi1 : (i : Int) < (n : Int) := by omega
  clear hl
  unfold turnE at HK he
  dsimp only at HK he
  cases psp with
  | true =>
    simp only [if_true] at HK
    clear he
    go_enter Try.func22, Try.ntmps22
    go_wp2_with (go_at_call 27; refine has_c st ?_; rw [HH.out])
    exact HK.out
  | false =>
    simp only [Bool.false_eq_true, if_false] at HK he
    by_cases ha : at_ < 0 ∨ (pn : Int) ≤ at_
    · simp only [ha, if_true] at HK
      clear he
      rcases ha with ha | ha
      · go_enter Try.func22, Try.ntmps22
        go_wp2_with (go_at_call 27; refine has_c st ?_; rw [HH.out])
        exact HK.out
      · have h0 : ¬ at_ < 0 := by omega
        go_enter Try.func22, Try.ntmps22
        go_wp2_with (go_at_call 27; refine has_c st ?_; rw [HH.out])
        exact HK.out
    · simp only [ha, if_false] at HK he
      by_cases hz : z = 0
      · subst hz
        simp only [if_true] at HK
        clear he
        have ha1 : ¬ at_ < 0 := fun h => ha (.inl h)
        have ha2 : ¬ (pn : Int) ≤ at_ := fun h => ha (.inr h)
        clear ha
        go_enter Try.func22, Try.ntmps22
        go_wp2_with (go_at_call 27; refine has_c st ?_; rw [HH.out])
        exact HK.out
      · simp [hz] at he

end Go.Proofs.Ytnibgchgcggfbab
