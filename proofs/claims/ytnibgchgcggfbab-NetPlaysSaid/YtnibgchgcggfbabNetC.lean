/- net: New, IsCut, put, Send. -/
import Derived.Test.YtnibgchgcggfbabNetB
namespace Go.Proofs.Ytnibgchgcggfbab
open Go.RowKit Go.Qd

theorem keyL : KeyT Try.prog 70 encL := by
  refine KeyT.asking Try.underlying70 (fun a b => rfl) (fun e a w => ?_) (fun a b w => ?_) (fun a => ?_)
  · kernel_rfl
  · obtain ⟨x, y⟩ := a
    obtain ⟨x', y'⟩ := b
    have hi : ∃ i, Try.prog.info? 3 = some i ∧ i.size = 1 := by
      obtain ⟨i, h1, _, h3, _⟩ := info_parts (by kernel_rfl : (Try.prog.info? 3).map (fun i => (i.zero, i.size, i.bytes)) = some (some (.int .i64 0), 1, 8))
      exact ⟨i, h1, h3⟩
    obtain ⟨i, hi1, hi2⟩ := hi
    have e3 : ∀ d (u v : Int), (Op.equalIn (d + 1) 3 (.int .i64 u) (.int .i64 v)).run Try.prog w = .ok (u == v) w := fun d u v => by
      simp [Op.equalIn, run_underlying Try.underlying3]
    have key : ∀ d, (Op.equalIn (d + 2) 70 (.agg #[.int .i64 x, .int .i64 y]) (.agg #[.int .i64 x', .int .i64 y'])).run Try.prog w = .ok (decide ((x, y) = (x', y'))) w := fun d => by
      rw [show d + 2 = (d + 1) + 1 from rfl, run_equalIn_array w (d + 1) _ _ Try.underlying70 hi1]
      have c3 : Try.prog.cellsOf 3 = 1 := by kernel_rfl
      rw [c3, show List.range 2 = [0, 1] from rfl]
      have p0 : ∀ u v : Int, (part 3 #[.int .i64 u, .int .i64 v] 0).run Try.prog w = .ok (.int .i64 u) w := fun u v => by kernel_rfl
      have p1 : ∀ u v : Int, (part 3 #[.int .i64 u, .int .i64 v] 1).run Try.prog w = .ok (.int .i64 v) w := fun u v => by kernel_rfl
      by_cases h1 : x = x' <;> by_cases h2 : y = y' <;> simp [Op.eqItems, p0, p1, e3, h1, h2]
    exact key 9998
  · obtain ⟨x, y⟩ := a
    simp [encL, Instr.sameBits]

theorem net_new_no {post : Ending → World → Prop} {w : World} {nodes room : Int} (h : nodes < 2 ∨ 12 < nodes ∨ room < 1 ∨ 4096 < room) (K : post (.returned (.tuple #[.pointer none, .int .i64 1])) w) :
    Calls Try.prog 7 #[.int .i64 nodes, .int .i64 room] w post := by
  have HK := hid K; clear K
  go_enter Try.func7, Try.ntmps7
  go_wp2
  all_goals exact HK.out

theorem net_new_c {W w : World} {R : List HP} {post : Ending → World → Prop} {nodes room : Int} (st : St W w R) (h : 2 ≤ nodes ∧ nodes ≤ 12 ∧ 1 ≤ room ∧ room ≤ 4096)
    (K : ∀ b w', St W w' (NetA b ⟨nodes, room, [], [], 0⟩ :: R) → post (.returned (.tuple #[.pointer (some ⟨b, 0, none⟩), .int .i64 0])) w') :
    Calls Try.prog 7 #[.int .i64 nodes, .int .i64 room] w post := by
  have HK := hid K; clear K
  obtain ⟨h1, h2, h3, h4⟩ := h
  have hmm := @run_makeMap Try.prog
  go_enter Try.func7, Try.ntmps7
  go_wp2
  have s1 := (MapA.make (enc := encL) st).alloc #[iv nodes, iv room, .slice none 0 0, .map (some w.heap.size), iv 0] 68
  have e1 : (w.alloc (.map #[] 0)).heap.size = w.heap.size + 1 := by simp
  rw [e1] at s1
  refine HK.out _ _ (NetA.close (al := none) (n := 0) (c := 0) (m := w.heap.size) ?_)
  have s2 := OwnS.none0 (sz := 4) (s1.pick 1)
  have s3 := s2.empD
  exact s3.perm [3, 1, 1, 0]

theorem lookAt_val {k : Int × Int} : ∀ {l : List ((Int × Int) × Value)} (i : Nat), (∀ p ∈ l, p.2 = iv 1) → ((lookAt k l i).map (·.2)).getD (.int .i64 0) = .int .i64 (if (lookAt k l i).isSome then 1 else 0)
  | [], _, _ => by simp [lookAt]
  | p :: l, i, h => by
    unfold lookAt
    by_cases hp : k = p.1
    · simp [hp, h p (by simp)]
    · simp only [if_neg hp]
      exact lookAt_val (i + 1) (fun q hq => h q (by simp [hq]))

theorem isCut_c {W w : World} {R : List HP} {post : Ending → World → Prop} {b : Nat} {N : NetV} {x y : Int} (st : St W w (NetA b N :: R)) (h1 : ∀ p ∈ N.cuts, p.2 = iv 1)
    (K : ∀ w', St W w' (NetA b N :: R) → post (.returned (.bool (linkB N.nodes x y && (lookAt (min x y, max x y) N.cuts 0).isSome))) w') :
    Calls Try.prog 17 #[.pointer (some ⟨b, 0, none⟩), .int .i64 x, .int .i64 y] w post := by
  have HK := hid K; clear K
  by_cases hl : linkB N.nodes x y = true
  · rw [hl, Bool.true_and] at HK
    have HL := hid hl; clear hl
    have hz : ∀ w, (zeroValue 3).run Try.prog w = .ok (.int .i64 0) w := fun w => by kernel_rfl
    go_enter Try.func17, Try.ntmps17
    go_wp2_with (go_at_call 24; refine between_c st ?_; rintro w1 s1; rw [HL.out])
    have s2 := (s1.alloc #[.int .i64 (min x y), .int .i64 (max x y)] 70)
    obtain ⟨al, n, c, m, s3⟩ := NetA.open (s2.pick 1)
    obtain ⟨_, _, _, h3, _⟩ := net5 s3
    have hlk : ∀ w' R', St W w' (MapA encL m N.cuts :: R') → (Instr.lookup 60 (.map (some m)) (.agg #[.int .i64 (min x y), .int .i64 (max x y)]) false).run Try.prog w' = .ok (((lookAt (min x y, max x y) N.cuts 0).map (·.2)).getD (.int .i64 0)) w' :=
      fun w' R' s' => run_lookup_st keyL Try.underlying60 hz s' (min x y, max x y)
    have hq : ∀ q, (Instr.lookup 60 (.map (some m)) (.agg #[.int .i64 (min x y), .int .i64 (max x y)]) false).run Try.prog ((w1.alloc (.cells #[.int .i64 (min x y), .int .i64 (max x y)] 70)).drewN q) = .ok (.int .i64 (if (lookAt (min x y, max x y) N.cuts 0).isSome then 1 else 0)) ((w1.alloc (.cells #[.int .i64 (min x y), .int .i64 (max x y)] 70)).drewN q) :=
      fun q => by rw [← lookAt_val 0 h1]; exact hlk _ _ ((St.pick 2 s3).drewN q)
    clear hlk
    have sfin := fun q => HK.out _ ((s2.drop).drewN q)
    have SF := hid sfin
    clear sfin HK
    by_cases hs : (lookAt (min x y, max x y) N.cuts 0).isSome = true
    · rw [hs] at SF
      simp only [hs, if_true] at hq
      clear hs
      go_quiet (fail)
      go_wp2
      exact SF.out nq
    · have hs' : (lookAt (min x y, max x y) N.cuts 0).isSome = false := by simpa using hs
      rw [hs'] at SF
      simp only [hs', Bool.false_eq_true, if_false] at hq
      clear hs hs'
      go_quiet (fail)
      go_wp2
      exact SF.out nq
  · have hf : linkB N.nodes x y = false := by simpa using hl
    rw [hf, Bool.false_and] at HK
    have HL := hid hf; clear hl hf
    go_enter Try.func17, Try.ntmps17
    go_wp2_with (go_at_call 24; refine between_c st ?_; rintro w1 s1; rw [HL.out])
    go_quiet (fail)
    go_wp2
    exact HK.out _ ((s1.alloc _ _).drop.drewN nq)

end Go.Proofs.Ytnibgchgcggfbab
