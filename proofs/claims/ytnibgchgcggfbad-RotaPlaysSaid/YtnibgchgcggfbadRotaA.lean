/- rota: a rota in memory; New, Next, Cycle, Left. -/
import Derived.Test.YtnibgchgcggfbadInts
import Derived.Test.YtnibgchgcggfbadSortV
import Derived.Test.YtnibgchgcggfbadRotaL
import Derived.Test.YtnibgchgcggfbadCopy
import Derived.StillTailTactics
namespace Go.Proofs.Ytnibgchgcggfbad
open Go.RowKit Go.Qd

def RotaA (b : Nat) (full cyc : Int) (L : List Int) : HP := fun h => ∃ x : Option Addr × Nat × Nat, sepL [row b 0 [iv full, iv cyc, .slice x.1 x.2.1 x.2.2], OwnS 1 x.1 x.2.1 x.2.2 (ivs L)] h

section
variable {W w : World} {R : List HP} {post : Ending → World → Prop} {b : Nat} {full cyc : Int} {L : List Int}

theorem RotaA.open (st : St W w (RotaA b full cyc L :: R)) : ∃ ao n c, St W w (row b 0 [iv full, iv cyc, .slice ao n c] :: OwnS 1 ao n c (ivs L) :: R) := by
  obtain ⟨x, s⟩ := St.ex (F := fun (x : Option Addr × Nat × Nat) h => sepL [row b 0 [iv full, iv cyc, .slice x.1 x.2.1 x.2.2], OwnS 1 x.1 x.2.1 x.2.2 (ivs L)] h) st
  exact ⟨_, _, _, (St.flat _).1 s⟩
theorem RotaA.close {ao : Option Addr} {n c : Nat} (st : St W w (row b 0 [iv full, iv cyc, .slice ao n c] :: OwnS 1 ao n c (ivs L) :: R)) : St W w (RotaA b full cyc L :: R) :=
  ((St.flat [row b 0 [iv full, iv cyc, .slice ao n c], OwnS 1 ao n c (ivs L)]).2 st).imp fun _ x => ⟨(ao, n, c), x⟩

theorem free3 {B : Nat} {x y z : Value} (s : St W w (row B 0 [x, y, z] :: R)) : w.frozen? ⟨B, 1, none⟩ = false ∧ w.frozen? ⟨B, 2, none⟩ = false :=
  ⟨by have := s.rowFree (i := 1) (by simp); rwa [Nat.zero_add] at this, by have := s.rowFree (i := 2) (by simp); rwa [Nat.zero_add] at this⟩

theorem rota_new_no (h : full < 1 ∨ 64 < full) (K : post (.returned (.tuple #[.pointer none, .int .i64 1])) w) : Calls Try.prog 7 #[.int .i64 full] w post := by
  have HK := hid K; clear K
  rcases h with h | h
  · go_enter Try.func7, Try.ntmps7
    go_wp2
    exact HK.out
  · have h' : ¬ full < 1 := by omega
    go_enter Try.func7, Try.ntmps7
    go_wp2
    exact HK.out

theorem rota_new_c (st : St W w R) (h : 1 ≤ full ∧ full ≤ 64) (K : ∀ b w', St W w' (RotaA b full 0 [] :: R) → post (.returned (.tuple #[.pointer (some ⟨b, 0, none⟩), .int .i64 0])) w') : Calls Try.prog 7 #[.int .i64 full] w post := by
  have HK := hid K; clear K
  obtain ⟨h1, h2⟩ := h
  go_enter Try.func7, Try.ntmps7
  go_wp2
  have s1 := st.alloc #[.int .i64 full, .int .i64 0, .slice none 0 0] 45
  exact HK.out _ _ (RotaA.close (L := []) ((OwnS.none0 (sz := 1) s1).perm [1]))

theorem cycle_c (st : St W w (RotaA b full cyc L :: R)) (K : post (.returned (.int .i64 cyc)) w) : Calls Try.prog 12 #[.pointer (some ⟨b, 0, none⟩)] w post := by
  have HK := hid K; clear K
  obtain ⟨ao, n, c, s⟩ := RotaA.open st
  obtain ⟨_, h1, _⟩ := box3 s
  go_enter Try.func12, Try.ntmps12
  go_wp2
  exact HK.out

theorem rleft_c (st : St W w (RotaA b full cyc L :: R)) (hl : L.length ≤ 4096) (K : ∀ ao c w', St W w' (OwnS 1 ao L.length c (ivs L) :: RotaA b full cyc L :: R) → post (.returned (.slice ao L.length c)) w') : Calls Try.prog 14 #[.pointer (some ⟨b, 0, none⟩)] w post := by
  have HK := hid K; clear K
  obtain ⟨ao, n, c, s⟩ := RotaA.open st
  obtain ⟨_, _, h2⟩ := box3 s
  have rd := OwnS.rd (St.pick 1 s)
  have hn := ivs_len rd
  rw [hn] at HK hl
  clear hn
  go_enter Try.func14, Try.ntmps14
  go_wp2_with (go_at_call 19; refine clone_c st rd (by omega) ?_; rintro a1 c1 w1 s1)
  exact HK.out _ _ _ s1

theorem compact_c {ao : Option Addr} {n c : Nat} {zs : List Int} (st : St W w (OwnS 1 ao n c (ivs zs) :: R)) (K : ∀ w', St W w' (OwnS 1 ao (Lib.compact zs).length c (ivs (Lib.compact zs)) :: R) → post (.returned (.slice ao (Lib.compact zs).length c)) w') :
    Calls Try.prog 15 #[.slice ao n c] w post := by
  have rd := OwnS.rd st
  have hl := ivs_len rd
  rcases Nat.eq_zero_or_pos n with h | h
  · subst h
    have : zs = [] := List.eq_nil_of_length_eq_zero hl
    subst this
    refine (Try.slices_Compact_int_empty ao c w).mono ?_
    rintro e w' ⟨rfl, rfl⟩
    exact K _ st
  · obtain ⟨b, o, rfl⟩ := rd.addr h
    have ht : zs.take n = zs := List.take_of_length_le (by omega)
    obtain ⟨sp, p, s⟩ := OwnS.open st
    have s1 : St W w (row b o (ivs zs ++ sp) :: R) := s
    refine (Try.slices_Compact_int_cells b o n c zs w (by omega) rd.big rd.le (fun j hj => by rw [rd.at (ivs_get hj)]; simp [hj]) (fun j hj => s1.rowFree (by simp [ivs]; omega))).mono ?_
    rintro e w' ⟨rfl, q, rfl⟩
    rw [ht]
    have hcl := compact_le zs
    obtain ⟨C, hC⟩ : ∃ C, Lib.compact zs = C := ⟨_, rfl⟩
    rw [hC] at K hcl ⊢
    have hpl : ((C ++ List.replicate (n - C.length) 0).map (Value.int .i64)).length = n := by simp; omega
    have s2 := (s1.drewN q).setPart (p := 0) (xs := (C ++ List.replicate (n - C.length) 0).map (Value.int .i64)) (by rw [hpl]; simp [ivs]; omega)
    have e2 : splice (ivs zs ++ sp) 0 ((C ++ List.replicate (n - C.length) 0).map (Value.int .i64)) = ivs C ++ (ivs (List.replicate (n - C.length) 0) ++ sp) := by
      unfold splice
      rw [hpl, List.take_zero, List.nil_append, Nat.zero_add, List.drop_append, List.drop_eq_nil_of_le (by simp [ivs]; omega), List.nil_append]
      have : n - (ivs zs).length = 0 := by simp [ivs]; omega
      rw [this, List.drop_zero]
      simp [ivs]
    rw [e2, Nat.add_zero] at s2
    refine K _ (OwnS.close (sp := ivs (List.replicate (n - C.length) 0) ++ sp) ⟨by simp [ivs], ?_, by have := p.le; omega, p.max, by simp, fun _ => ⟨_, _, rfl⟩, ivs_one C⟩ s2)
    have := p.spare
    simp [ivs]
    have := p.le
    omega

end

end Go.Proofs.Ytnibgchgcggfbad
