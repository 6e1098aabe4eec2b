/- net: Lose, Turn. -/
import Derived.Test.YtnibgchgcggfbabNetS
import Derived.StillTailTactics
namespace Go.Proofs.Ytnibgchgcggfbab
open Go.RowKit Go.Qd

theorem lose_no {W w : World} {R : List HP} {post : Ending → World → Prop} {b : Nat} {N : NetV} {i : Int} (st : St W w (NetA b N :: R)) (h : hasB N i = false)
    (K : post (.returned (.int .i64 3)) w) : Calls Try.prog 21 #[.pointer (some ⟨b, 0, none⟩), .int .i64 i] w post := by
  have HK := hid K; clear K
  have HH := hid h; clear h
  go_enter Try.func21, Try.ntmps21
  go_wp2_with (go_at_call 27; refine has_c st ?_; rw [HH.out])
  exact HK.out

theorem lose_c {W w : World} {R : List HP} {post : Ending → World → Prop} {b : Nat} {N : NetV} {i : Nat} (st : St W w (NetA b N :: R)) (h : i < N.ps.length) (hn4 : N.ps.length ≤ 4096)
    (K : ∀ w', St W w' (NetA b (dropN N i) :: R) → post (.returned (.int .i64 0)) w') : Calls Try.prog 21 #[.pointer (some ⟨b, 0, none⟩), .int .i64 i] w post := by
  have HK := hid K; clear K
  have HH := hid (hasB_yes h)
  obtain ⟨al, n, c, m, s⟩ := NetA.open st
  obtain ⟨_, _, h2, _, _⟩ := net5 s
  have rd := OwnS.rd (St.pick 1 s)
  have hl := pcells_len rd
  have hin : i < n := by omega
  have hbig := rd.big
  have hb48 : n * 48 ≤ 140737488355328 := by omega
  have HE := hid (pcells_erase N.ps i h)
  have hnth := hid (fun w' R' (s' : St W w' (sepL (N.ps.map PV.bytes) :: R')) => (St.nth h).1 s')
  clear hl
  go_enter Try.func21, Try.ntmps21
  go_wp2_with (first
    | (go_at_call 27; refine has_c st ?_; rw [HH.out])
    | (go_at_call 28; refine deleteP_c (St.pick 1 s) hin hb48 ?_; rintro a3 c3' w3 s3; rw [← HE.out] at s3; have qf := (St.pick 1 s3).rowFree (i := 2) (by simp [netCells]); rw [Nat.zero_add] at qf; have qc := (net5 (St.pick 1 s3)).2.2.1))
  have s4 := net_setL (al' := a3) (n' := n - 1) (c' := c3') (St.pick 1 s3)
  have s5 := (hnth.out _ _ (s4.perm [3])).drop
  exact HK.out _ (NetA.close (N := dropN N i) (s5.perm [1, 1, 1]))

theorem box2 {W w : World} {R : List HP} {B : Nat} {x y : Value} (s : St W w (row B 0 [x, y] :: R)) : w.cell? ⟨B, 0, none⟩ = some x ∧ w.cell? ⟨B, 1, none⟩ = some y :=
  ⟨s.rowCell (i := 0) rfl, by have := s.rowCell (i := 1) rfl; rwa [Nat.zero_add] at this⟩

/-- A link is cut, or mended. -/
def cutN (N : NetV) (x y : Int) (cut : Bool) : NetV := { N with cuts := if cut then aput N.cuts (min x y, max x y) (iv 1) else adel N.cuts (min x y, max x y) }

theorem cut_c {W w : World} {R : List HP} {post : Ending → World → Prop} {b : Nat} {N : NetV} {x y : Int} {cut : Bool} (st : St W w (NetA b N :: R))
    (K : ∀ w', St W w' (NetA b (if linkB N.nodes x y then cutN N x y cut else N) :: R) → post (.returned (.int .i64 (if linkB N.nodes x y then 0 else 1))) w') :
    Calls Try.prog 23 #[.pointer (some ⟨b, 0, none⟩), .int .i64 x, .int .i64 y, .bool cut] w post := by
  have HK := hid K; clear K
  by_cases hl : linkB N.nodes x y = true
  · simp only [hl, if_true] at HK
    have HL := hid hl; clear hl
    cases cut with
    | true =>
      go_enter Try.func23, Try.ntmps23
      go_wp2_with (go_at_call 24; refine between_c st ?_; rintro w1 s1; rw [HL.out])
      have s2 := (s1.alloc #[.int .i64 (min x y), .int .i64 (max x y)] 70)
      generalize w1.alloc (.cells #[.int .i64 (min x y), .int .i64 (max x y)] 70) = wq at s2 ⊢
      generalize w1.heap.size = B at s2 ⊢
      obtain ⟨al, n, c, m, s3⟩ := NetA.open (s2.pick 1)
      have h3 := (net5 s3).2.2.2.1
      have hk := box2 (St.pick 4 s3)
      obtain ⟨w9, hmu0, s9⟩ := run_mapUpdate_st (P := Try.prog) keyL Try.underlying60 (St.pick 2 s3).drew (min x y, max x y) (iv 1)
      have hmu : (Instr.mapUpdate 60 (.map (some m)) (.agg #[.int .i64 (min x y), .int .i64 (max x y)]) (.int .i64 1)).run Try.prog wq.drew = .ok () w9 := hmu0
      clear hmu0
      have g3 := (net5 (St.pick 1 s9)).2.2.2.1
      have gk := box2 (St.pick 4 s9)
      go_region_held3 (fun w' => w'.cell? ⟨b, 3, none⟩ = some (.map (some m)) ∧ w'.cell? ⟨B, 0, none⟩ = some (.int .i64 (min x y)) ∧ w'.cell? ⟨B, 1, none⟩ = some (.int .i64 (max x y)))
        (first | exact ⟨h3, hk⟩ | exact ⟨g3, gk⟩) (fail)
      go_wp2
      exact HK.out _ ((NetA.close (N := cutN N x y true) (s9.perm [1, 1, 0, 0])) |> fun s => (St.pick 1 s).drop)
    | false =>
      go_enter Try.func23, Try.ntmps23
      go_wp2_with (go_at_call 24; refine between_c st ?_; rintro w1 s1; rw [HL.out])
      have s2 := (s1.alloc #[.int .i64 (min x y), .int .i64 (max x y)] 70)
      generalize w1.alloc (.cells #[.int .i64 (min x y), .int .i64 (max x y)] 70) = wq at s2 ⊢
      generalize w1.heap.size = B at s2 ⊢
      obtain ⟨al, n, c, m, s3⟩ := NetA.open (s2.pick 1)
      have h3 := (net5 s3).2.2.2.1
      have hk := box2 (St.pick 4 s3)
      have s8 : St W wq.drew (MapA encL m N.cuts :: _) := (St.pick 2 s3).drew
      go_region_held3 (fun w' => w'.cell? ⟨b, 3, none⟩ = some (.map (some m)) ∧ w'.cell? ⟨B, 0, none⟩ = some (.int .i64 (min x y)) ∧ w'.cell? ⟨B, 1, none⟩ = some (.int .i64 (max x y)))
        (first | exact ⟨h3, hk⟩ | exact ⟨(net5 (St.pick 1 s9)).2.2.2.1, box2 (St.pick 4 s9)⟩)
        (first | (refine step_delete_st (k := (min x y, max x y)) rfl (.tmp 21) (.tmp 22) rfl keyL Try.underlying60 rfl rfl s8 ?_; rintro w9 s9))
      go_wp2
      exact HK.out _ ((NetA.close (N := cutN N x y false) (s9.perm [1, 1, 0, 0])) |> fun s => (St.pick 1 s).drop)
  · have hf : linkB N.nodes x y = false := by simpa using hl
    simp only [hf, Bool.false_eq_true, if_false] at HK
    have HL := hid hf; clear hl hf
    go_enter Try.func23, Try.ntmps23
    go_wp2_with (go_at_call 24; refine between_c st ?_; rintro w1 s1; rw [HL.out])
    exact HK.out _ (s1.alloc _ _).drop

end Go.Proofs.Ytnibgchgcggfbab
