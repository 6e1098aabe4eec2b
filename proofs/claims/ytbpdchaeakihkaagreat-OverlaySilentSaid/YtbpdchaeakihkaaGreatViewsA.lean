/- views: a set of nodes in memory: has, full, drop, add. -/
import Derived.Test.YtbpdchaeakihkaaGreatDiceB
import Derived.Test.YtbpdchaeakihkaaGreatIns
import Derived.Test.YtbpdchaeakihkaaGreatSets
import Derived.Test.YtbpdchaeakihkaaGreatShelf
namespace Go.Proofs.YtbpdchaeakihkaaGreat
open Go.RowKit Go.Qd

theorem ivs_cell {w : World} {b o n c : Nat} {zs : List Int} (rd : RdS w 1 (some ⟨b, o, none⟩) n c (ivs zs)) : ∀ j, j < zs.length → w.cell? ⟨b, o + j, none⟩ = some (.int .i64 (zs.getD j 0)) := fun j hj => by
  rw [rd.at (ivs_get hj)]; simp [hj]

theorem contains_c {post : Ending → World → Prop} {w : World} {ao : Option Addr} {n c : Nat} {zs : List Int} {x : Int} (rd : RdS w 1 ao n c (ivs zs))
    (K : post (.returned (.bool (memB zs x))) w) : Calls Tryz.prog 98 #[.slice ao n c, .int .i64 x] w post := by
  have hl := ivs_len rd
  rcases Nat.eq_zero_or_pos n with h | h
  · subst h
    have : zs = [] := List.eq_nil_of_length_eq_zero hl
    subst this
    refine (Tryz.slices_Contains_int_empty ao c x w).mono ?_
    rintro e w' ⟨rfl, rfl⟩
    exact K
  · obtain ⟨b, o, rfl⟩ := rd.addr h
    refine (Tryz.slices_Contains_int b o n c zs x w (by omega) rd.big (ivs_cell rd)).mono ?_
    rintro e w' ⟨rfl, rfl⟩
    rw [List.take_of_length_le (by omega)]
    exact K

theorem search_c {W w : World} {R : List HP} {post : Ending → World → Prop} {ao : Option Addr} {n c : Nat} {zs : List Int} {x : Int} (st : St W w R) (rd : RdS w 1 ao n c (ivs zs)) (hs : zs.Pairwise (· < ·)) (hn : n ≤ 4096)
    (K : ∀ w', St W w' R → post (.returned (.tuple #[.int .i64 (zs.countP (· < x) : Nat), .bool (memB zs x)])) w') : Calls Tryz.prog 136 #[.slice ao n c, .int .i64 x] w post := by
  have hl := ivs_len rd
  rcases Nat.eq_zero_or_pos n with h | h
  · subst h
    have : zs = [] := List.eq_nil_of_length_eq_zero hl
    subst this
    refine (Tryz.slices_BinarySearch_int_empty ao c x w).mono ?_
    rintro e w' ⟨rfl, rfl⟩
    exact K _ st
  · obtain ⟨b, o, rfl⟩ := rd.addr h
    have ht : zs.take n = zs := List.take_of_length_le (by omega)
    refine (Tryz.slices_BinarySearch_int b o n c zs x w (by omega) (by omega) (ivs_cell rd) (by rw [ht]; exact hs.imp (fun h => Int.le_of_lt h))).mono ?_
    rintro e w' ⟨rfl, q, rfl⟩
    rw [ht]
    exact K _ (st.drewN q)

/-- A set of nodes. -/
def SetA (b o : Nat) (l : List Int) (most : Int) : HP := fun h => ∃ x : Option Addr × Nat × Nat, sepL [row b o [.slice x.1 x.2.1 x.2.2, iv most], OwnS 1 x.1 x.2.1 x.2.2 (ivs l)] h

theorem SetA.open {W w : World} {R : List HP} {b o : Nat} {l : List Int} {most : Int} (st : St W w (SetA b o l most :: R)) :
    ∃ ao n c, St W w (row b o [.slice ao n c, iv most] :: OwnS 1 ao n c (ivs l) :: R) := by
  obtain ⟨x, s⟩ := St.ex (F := fun (x : Option Addr × Nat × Nat) h => sepL [row b o [.slice x.1 x.2.1 x.2.2, iv most], OwnS 1 x.1 x.2.1 x.2.2 (ivs l)] h) st
  exact ⟨_, _, _, (St.flat _).1 s⟩

theorem SetA.close {W w : World} {R : List HP} {b o : Nat} {l : List Int} {most : Int} {ao : Option Addr} {n c : Nat} (st : St W w (row b o [.slice ao n c, iv most] :: OwnS 1 ao n c (ivs l) :: R)) : St W w (SetA b o l most :: R) :=
  ((St.flat [row b o [.slice ao n c, iv most], OwnS 1 ao n c (ivs l)]).2 st).imp fun _ x => ⟨(ao, n, c), x⟩

theorem row2 {W w : World} {R : List HP} {b o : Nat} {x y : Value} (s : St W w (row b o [x, y] :: R)) : w.cell? ⟨b, o, none⟩ = some x ∧ w.cell? ⟨b, o + 1, none⟩ = some y ∧ w.frozen? ⟨b, o, none⟩ = false :=
  ⟨by have := s.rowCell (i := 0) rfl; exact this, s.rowCell (i := 1) rfl, by have := s.rowFree (i := 0) (by simp); exact this⟩

theorem has_c {W w : World} {R : List HP} {post : Ending → World → Prop} {b o : Nat} {l : List Int} {most p : Int} (st : St W w (SetA b o l most :: R))
    (K : post (.returned (.bool (memB l p))) w) : Calls Tryz.prog 87 #[.pointer (some ⟨b, o, none⟩), .int .i64 p] w post := by
  have HK := hid K; clear K
  obtain ⟨ao, n, c, s⟩ := SetA.open st
  obtain ⟨h0, _, _⟩ := row2 s
  have rd := OwnS.rd (St.pick 1 s)
  go_enter Tryz.func87, Tryz.ntmps87
  go_wp2_with (go_at_call 98; refine contains_c rd ?_)
  exact HK.out

theorem full_c {W w : World} {R : List HP} {post : Ending → World → Prop} {b o : Nat} {l : List Int} {most : Int} (st : St W w (SetA b o l most :: R))
    (K : ∀ w', St W w' (SetA b o l most :: R) → post (.returned (.bool (decide (most ≤ l.length)))) w') : Calls Tryz.prog 135 #[.pointer (some ⟨b, o, none⟩)] w post := by
  have HK := hid K; clear K
  obtain ⟨ao, n, c, s⟩ := SetA.open st
  obtain ⟨h0, h1, _⟩ := row2 s
  have rd := OwnS.rd (St.pick 1 s)
  have hl := ivs_len rd
  rw [hl] at HK
  have hbig := rd.big
  clear hl
  go_enter Tryz.func135, Tryz.ntmps135
  go_wp2_with fail
  go_quiet (fail)
  go_wp2
  exact HK.out _ (st.drewN nq)

theorem drop_c {W w : World} {R : List HP} {post : Ending → World → Prop} {b o : Nat} {l : List Int} {most p : Int} (st : St W w (SetA b o l most :: R)) (hs : l.Pairwise (· < ·)) (hn : l.length ≤ 4096)
    (K : ∀ w', St W w' (SetA b o (dropL l p) most :: R) → post (.returned (.bool (memB l p))) w') : Calls Tryz.prog 134 #[.pointer (some ⟨b, o, none⟩), .int .i64 p] w post := by
  have HK := hid K; clear K
  obtain ⟨ao, n, c, s⟩ := SetA.open st
  obtain ⟨h0, _, _⟩ := row2 s
  have rd := OwnS.rd (St.pick 1 s)
  have hl := ivs_len rd
  have hn4 : n ≤ 4096 := by omega
  by_cases hp : p ∈ l
  · have hc : memB l p = true := memB_yes hp
    obtain ⟨h1, h2⟩ := dropL_eq hs hp
    have HH := hid h1
    have hi : l.countP (· < p) < n := by omega
    obtain ⟨i, hi'⟩ : ∃ i, l.countP (· < p) = i := ⟨_, rfl⟩
    rw [hi'] at HH hi
    rw [hc] at HK
    have HI := hid hi'; have HC := hid hc
    clear hi' h1 h2 hc hp hl hn
    have HS := hid hs
    clear hs
    go_enter Tryz.func134, Tryz.ntmps134
    go_wp2_with (first
      | (go_at_call 136; refine search_c s rd HS.out hn4 ?_; rintro w1 s1; rw [HI.out, HC.out]; obtain ⟨g0, _, gf⟩ := row2 s1)
      | (go_at_call 139; refine deleteI_c (St.pick 1 s1) hi (by omega) ?_; rintro a2 c2 w2 s2; obtain ⟨k0, _, kf⟩ := row2 (St.pick 1 s2)))
    have e : (ivs l).take (i * 1) ++ (ivs l).drop ((i + 1) * 1) = ivs (dropL l p) := by
      rw [← HH.out]; simp [ivs, List.map_take, List.map_drop]
    rw [e] at s2
    have s3 := (St.pick 1 s2).rowSet (i := 0) (by simp) (.slice a2 (n - 1) c2)
    exact HK.out _ (SetA.close s3)
  · have hc : memB l p = false := memB_no hp
    rw [dropL_out hp, hc] at HK
    have HC := hid hc
    have HS := hid hs
    clear hc hp hl hn hs
    go_enter Tryz.func134, Tryz.ntmps134
    go_wp2_with (go_at_call 136; refine search_c s rd HS.out hn4 ?_; rintro w1 s1; rw [HC.out])
    exact HK.out _ (SetA.close s1)

end Go.Proofs.YtbpdchaeakihkaaGreat
