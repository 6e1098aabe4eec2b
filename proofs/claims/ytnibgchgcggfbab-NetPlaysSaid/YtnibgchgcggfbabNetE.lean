/- net: Copy, Ends, Take. -/
import Derived.Test.YtnibgchgcggfbabNetD
namespace Go.Proofs.Ytnibgchgcggfbab
open Go.RowKit Go.Qd

theorem flat_get {α : Type} {sz : Nat} : ∀ {css : List (List α)} (_ : ∀ cs ∈ css, cs.length = sz) {i : Nat} (hi : i < css.length) {j : Nat} (_ : j < sz), css.flatten[i * sz + j]? = css[i][j]?
  | [], _, i, hi, _, _ => by simp at hi
  | cs :: css, h, i, hi, j, hj => by
    have h0 := h cs (by simp)
    cases i with
    | zero => simp only [List.flatten_cons, Nat.zero_mul, Nat.zero_add, List.getElem_cons_zero]; rw [List.getElem?_append_left (by omega)]
    | succ i =>
      have := flat_get (css := css) (fun c hc => h c (by simp [hc])) (i := i) (by simpa using hi) hj
      rw [List.flatten_cons, List.getElem?_append_right (by rw [h0, Nat.add_mul]; omega), List.getElem_cons_succ, ← this]
      congr 1
      rw [h0, Nat.add_mul]; omega

theorem pcells_get {l : List PV} {i : Nat} (hi : i < l.length) {j : Nat} (hj : j < 4) : (pcells l)[i * 4 + j]? = l[i].cells[j]? := by
  unfold pcells
  rw [flat_get (sz := 4) (by intro cs hc; obtain ⟨x, _, rfl⟩ := List.mem_map.1 hc; rfl) (by simpa using hi) hj, List.getElem_map]

theorem pcells_size (l : List PV) : (pcells l).length = l.length * 4 := by
  induction l with
  | nil => rfl
  | cons x l ih => show (x.cells ++ pcells l).length = _; rw [List.length_append, ih, List.length_cons]; simp [PV.cells]; omega

theorem pcells_erase : ∀ (l : List PV) (i : Nat), i < l.length → pcells (l.eraseIdx i) = (pcells l).take (i * 4) ++ (pcells l).drop ((i + 1) * 4)
  | [], i, h => by simp at h
  | x :: l, 0, _ => by show pcells l = _; simp [pcells, PV.cells]
  | x :: l, i + 1, h => by
    have ih := pcells_erase l i (by simpa using h)
    show x.cells ++ pcells (l.eraseIdx i) = (x.cells ++ pcells l).take ((i + 1) * 4) ++ (x.cells ++ pcells l).drop ((i + 1 + 1) * 4)
    have hx : x.cells.length = 4 := rfl
    rw [List.take_append, List.drop_append, hx, List.take_of_length_le (by rw [hx]; omega), List.drop_eq_nil_of_le (by rw [hx]; omega), ih]
    rw [show (i + 1) * 4 - 4 = i * 4 from by omega, show (i + 1 + 1) * 4 - 4 = (i + 1) * 4 from by omega]
    simp

theorem sep_nth {α : Type} (f : α → HP) : ∀ (l : List α) (i : Nat) (h : i < l.length) (hp : HL), sepL (l.map f) hp ↔ star (f l[i]) (sepL ((l.eraseIdx i).map f)) hp
  | [], i, h, _ => by simp at h
  | x :: l, 0, _, hp => Iff.rfl
  | x :: l, i + 1, h, hp => by
    have ih := sep_nth f l i (by simpa using h)
    constructor
    · intro s
      exact star_left (star_mono (fun _ y => y) (fun h y => (ih h).1 y) s)
    · intro s
      exact star_mono (fun _ y => y) (fun h y => (ih h).2 y) (star_left s)

theorem St.nth {α : Type} {f : α → HP} {W w : World} {R : List HP} {l : List α} {i : Nat} (h : i < l.length) : St W w (sepL (l.map f) :: R) ↔ St W w (f l[i] :: sepL ((l.eraseIdx i).map f) :: R) := by
  constructor
  · intro s
    exact s.of fun _ x => star_assoc' (star_mono (fun h' y => (sep_nth f l i h h').1 y) (fun _ y => y) x)
  · intro s
    exact s.of fun _ x => star_mono (fun h' y => (sep_nth f l i h h').2 y) (fun _ y => y) (star_assoc x)

theorem hasB_yes {N : NetV} {i : Nat} (h : i < N.ps.length) : hasB N i = true := by unfold hasB; simp; omega

/-- The cells of a parcel of the net. -/
theorem parcel4 {w : World} {l : List PV} {b o n c i : Nat} (rd : RdS w 4 (some ⟨b, o, none⟩) n c (pcells l)) (hi : i < l.length) :
    w.cell? ⟨b, o + i * 4, none⟩ = some (.int .i64 l[i].f) ∧ w.cell? ⟨b, o + i * 4 + 1, none⟩ = some (.int .i64 l[i].t) ∧
      w.cell? ⟨b, o + i * 4 + 2, none⟩ = some (.slice l[i].a l[i].n l[i].c) ∧ w.cell? ⟨b, o + i * 4 + 3, none⟩ = some (.bool l[i].sp) :=
  ⟨rd.at (by have := pcells_get hi (j := 0) (by decide); rw [Nat.add_zero] at this; rw [this]; rfl), rd.at2 (by rw [pcells_get hi (j := 1) (by decide)]; rfl),
    rd.at2 (by rw [pcells_get hi (j := 2) (by decide)]; rfl), rd.at2 (by rw [pcells_get hi (j := 3) (by decide)]; rfl)⟩

theorem ends_no {W w : World} {R : List HP} {post : Ending → World → Prop} {b : Nat} {N : NetV} {i : Int} (st : St W w (NetA b N :: R)) (h : hasB N i = false)
    (K : post (.returned (.tuple #[.int .i64 0, .int .i64 0, .bool false])) w) : Calls Try.prog 10 #[.pointer (some ⟨b, 0, none⟩), .int .i64 i] w post := by
  have HK := hid K; clear K
  have HH := hid h; clear h
  go_enter Try.func10, Try.ntmps10
  go_wp2_with (go_at_call 27; refine has_c st ?_; rw [HH.out])
  go_ret3
  exact HK.out

theorem ends_c {W w : World} {R : List HP} {post : Ending → World → Prop} {b : Nat} {N : NetV} {i : Nat} (st : St W w (NetA b N :: R)) (h : i < N.ps.length)
    (K : ∀ q, post (.returned (.tuple #[.int .i64 N.ps[i].f, .int .i64 N.ps[i].t, .bool true])) (w.drewN q)) : Calls Try.prog 10 #[.pointer (some ⟨b, 0, none⟩), .int .i64 i] w post := by
  have HK := hid K; clear K
  have HH := hid (hasB_yes h)
  obtain ⟨al, n, c, m, s⟩ := NetA.open st
  obtain ⟨_, _, h2, _, _⟩ := net5 s
  have rd := OwnS.rd (St.pick 1 s)
  have hl := pcells_len rd
  have hin : i < n := by omega
  have hbig := rd.big
  obtain ⟨g, o, rfl⟩ := rd.addr (by omega)
  obtain ⟨c0, c1, _, _⟩ := parcel4 rd h
  have hi1 : (i : Int) < (n : Int) := by omega
  clear hl
  go_enter Try.func10, Try.ntmps10
  go_wp2_with (go_at_call 27; refine has_c st ?_; rw [HH.out])
  go_quiet (fail)
  go_wp2
  go_ret3
  exact HK.out nq

theorem copy_no {W w : World} {R : List HP} {post : Ending → World → Prop} {b : Nat} {N : NetV} {i : Int} (st : St W w (NetA b N :: R)) (h : hasB N i = false)
    (K : post (.returned (.int .i64 3)) w) : Calls Try.prog 9 #[.pointer (some ⟨b, 0, none⟩), .int .i64 i] w post := by
  have HK := hid K; clear K
  have HH := hid h; clear h
  go_enter Try.func9, Try.ntmps9
  go_wp2_with (go_at_call 27; refine has_c st ?_; rw [HH.out])
  exact HK.out

theorem copy_c {W w : World} {R : List HP} {post : Ending → World → Prop} {b : Nat} {N : NetV} {i : Nat} (st : St W w (NetA b N :: R)) (h : i < N.ps.length) (h4 : ∀ p ∈ N.ps, p.n ≤ 4096)
    (hr : N.room ≤ 4096) (hd : 0 ≤ N.dropped ∧ N.dropped ≤ 4611686018427387904)
    (K : ∀ w' a' c', St W w' (NetA b (putN N { N.ps[i] with a := a', c := c' }) :: R) → post (.returned (.int .i64 (if (N.ps.length : Int) < N.room then 0 else 7))) w') :
    Calls Try.prog 9 #[.pointer (some ⟨b, 0, none⟩), .int .i64 i] w post := by
  have HK := hid K; clear K
  have HH := hid (hasB_yes h)
  obtain ⟨al, n, c, m, s⟩ := NetA.open st
  obtain ⟨_, _, h2, _, _⟩ := net5 s
  have rd := OwnS.rd (St.pick 1 s)
  have hl := pcells_len rd
  have hin : i < n := by omega
  have hbig := rd.big
  obtain ⟨g, o, rfl⟩ := rd.addr (by omega)
  obtain ⟨c0, c1, c2, c3⟩ := parcel4 rd h
  have hp4 := h4 _ (List.getElem_mem h)
  have hbt := OwnS.rd ((St.nth h).1 (St.pick 3 s))
  obtain ⟨p, hp⟩ : ∃ p, N.ps[i] = p := ⟨_, rfl⟩
  rw [hp] at c0 c1 c2 c3 hp4 hbt HK
  clear hp
  obtain ⟨pf, pt, pa, pn, pc, pbs, psp⟩ := p
  dsimp only at c0 c1 c2 c3 hp4 hbt HK
  have hi1 : (i : Int) < (n : Int) := by omega
  have HL := hid hl
  clear hl h4
  have s1 := st.alloc #[.int .i64 pf, .int .i64 pt, .slice pa pn pc, .bool psp] 76
  have hbt1 := hbt.alloc (.cells #[.int .i64 pf, .int .i64 pt, .slice pa pn pc, .bool psp] 76)
  by_cases hlt : (n : Int) < N.room
  · rw [HL.out, if_pos hlt] at HK
    have hdl := hid (show decide ((N.ps.length : Int) < N.room) = true by rw [HL.out]; simpa using hlt)
    clear hlt
    go_enter Try.func9, Try.ntmps9
    go_wp2_with (first
      | (go_at_call 27; refine has_c st ?_; rw [HH.out])
      | (go_at_call 26; refine cloneB_c s1 hbt1 (by omega) ?_; rintro a2 c2' w2 s2; obtain ⟨q0, q1, q2, q3⟩ := box4 (St.pick 1 s2); have qf := (St.pick 1 s2).rowFree (i := 2) (by simp); rw [Nat.zero_add] at qf))
    have s3 := (St.pick 1 s2).rowSet (i := 2) (by simp) (.slice a2 pn c2')
    rw [Nat.zero_add] at s3
    have s4 := (s3.drop).perm [1, 0]
    go_wp2_with (go_at_call 25; refine put_c (p := ⟨pf, pt, a2, pn, c2', pbs, psp⟩) s4 hr hd ?_; rintro w5 s5; rw [hdl.out])
    exact HK.out _ _ _ s5
  · rw [HL.out, if_neg hlt] at HK
    have hdl := hid (show decide ((N.ps.length : Int) < N.room) = false by rw [HL.out]; simpa using hlt)
    clear hlt
    go_enter Try.func9, Try.ntmps9
    go_wp2_with (first
      | (go_at_call 27; refine has_c st ?_; rw [HH.out])
      | (go_at_call 26; refine cloneB_c s1 hbt1 (by omega) ?_; rintro a2 c2' w2 s2; obtain ⟨q0, q1, q2, q3⟩ := box4 (St.pick 1 s2); have qf := (St.pick 1 s2).rowFree (i := 2) (by simp); rw [Nat.zero_add] at qf))
    have s3 := (St.pick 1 s2).rowSet (i := 2) (by simp) (.slice a2 pn c2')
    rw [Nat.zero_add] at s3
    have s4 := (s3.drop).perm [1, 0]
    go_wp2_with (go_at_call 25; refine put_c (p := ⟨pf, pt, a2, pn, c2', pbs, psp⟩) s4 hr hd ?_; rintro w5 s5; rw [hdl.out])
    exact HK.out _ _ _ s5

theorem take_no {W w : World} {R : List HP} {post : Ending → World → Prop} {b : Nat} {N : NetV} {i : Int} (st : St W w (NetA b N :: R)) (h : hasB N i = false)
    (K : post (.returned (.tuple #[.int .i64 0, .slice none 0 0, .int .i64 3])) w) : Calls Try.prog 11 #[.pointer (some ⟨b, 0, none⟩), .int .i64 i] w post := by
  have HK := hid K; clear K
  have HH := hid h; clear h
  go_enter Try.func11, Try.ntmps11
  go_wp2_with (go_at_call 27; refine has_c st ?_; rw [HH.out])
  go_ret3
  exact HK.out

def cutB (N : NetV) (x y : Int) : Bool := linkB N.nodes x y && (lookAt (min x y, max x y) N.cuts 0).isSome
def dropN (N : NetV) (i : Nat) : NetV := { N with ps := N.ps.eraseIdx i }

theorem take_c {W w : World} {R : List HP} {post : Ending → World → Prop} {b : Nat} {N : NetV} {i : Nat} (st : St W w (NetA b N :: R)) (h : i < N.ps.length) (h1 : ∀ p ∈ N.cuts, p.2 = iv 1) (hn4 : N.ps.length ≤ 4096)
    (K : ∀ w', St W w' (NetA b (dropN N i) :: N.ps[i].bytes :: R) →
      post (.returned (if cutB N N.ps[i].f N.ps[i].t then .tuple #[.int .i64 0, .slice none 0 0, .int .i64 13] else .tuple #[.int .i64 N.ps[i].t, .slice N.ps[i].a N.ps[i].n N.ps[i].c, .int .i64 0])) w') :
    Calls Try.prog 11 #[.pointer (some ⟨b, 0, none⟩), .int .i64 i] w post := by
  have HK := hid K; clear K
  have HH := hid (hasB_yes h)
  obtain ⟨al, n, c, m, s⟩ := NetA.open st
  obtain ⟨_, _, h2, _, _⟩ := net5 s
  have rd := OwnS.rd (St.pick 1 s)
  have hl := pcells_len rd
  have hin : i < n := by omega
  have hbig := rd.big
  have hb48 : n * 48 ≤ 140737488355328 := by omega
  obtain ⟨g, o, rfl⟩ := rd.addr (by omega)
  obtain ⟨c0, c1, c2, c3⟩ := parcel4 rd h
  have herase := pcells_erase N.ps i h
  have hnth := hid (fun w' R' (s' : St W w' (sepL (N.ps.map PV.bytes) :: R')) => (St.nth h).1 s')
  obtain ⟨p, hp⟩ : ∃ p, N.ps[i] = p := ⟨_, rfl⟩
  rw [hp] at c0 c1 c2 c3 HK hnth
  clear hp
  obtain ⟨pf, pt, pa, pn, pc, pbs, psp⟩ := p
  dsimp only at c0 c1 c2 c3 HK
  have hi1 : (i : Int) < (n : Int) := by omega
  have HE := hid herase
  clear hl herase
  have hbl := World.block_lt_of_cell? _ _ h2
  have t1 := s.alloc #[.int .i64 pf, .int .i64 pt, .slice pa pn pc, .bool psp] 76
  have t2 : St W _ (OwnS 4 (some ⟨g, o, none⟩) n c (pcells N.ps) :: _) := St.pick 2 t1
  go_enter Try.func11, Try.ntmps11
  go_wp2_with (first
    | (go_at_call 27; refine has_c st ?_; rw [HH.out])
    | (go_at_call 28; refine deleteP_c t2 hin hb48 ?_; rintro a3 c3' w3 s3; rw [← HE.out] at s3; have qf := (St.pick 2 s3).rowFree (i := 2) (by simp [netCells]); rw [Nat.zero_add] at qf; have qc := (net5 (St.pick 2 s3)).2.2.1; obtain ⟨q0, q1, q2, q3⟩ := box4 (St.pick 1 s3)))
  have s4 : St W (w3.setCell ⟨b, 2, none⟩ (.slice a3 (n - 1) c3')) (row b 0 (netCells N a3 (n - 1) c3' m) :: _) := net_setL (al' := a3) (n' := n - 1) (c' := c3') (St.pick 2 s3)
  have s5 := NetA.close (N := dropN N i) ((hnth.out _ _ (s4.perm [4])).perm [2, 2, 3, 1])
  obtain ⟨cb, hcb⟩ : ∃ cb, cutB N pf pt = cb := ⟨_, rfl⟩
  rw [hcb] at HK
  have HCB := hid (show (linkB (dropN N i).nodes pf pt && (lookAt (min pf pt, max pf pt) (dropN N i).cuts 0).isSome) = cb from hcb)
  clear hcb
  cases cb with
  | true =>
    simp only [if_true] at HK
    go_wp2_with (go_at_call 17; refine isCut_c s5 h1 ?_; rintro w6 s6; rw [HCB.out])
    go_ret3
    exact HK.out _ ((St.pick 2 s6).drop)
  | false =>
    simp only [Bool.false_eq_true, if_false] at HK
    go_wp2_with (go_at_call 17; refine isCut_c s5 h1 ?_; rintro w6 s6; rw [HCB.out]; obtain ⟨r0, r1, r2, r3⟩ := box4 (St.pick 2 s6))
    go_quiet (fail)
    go_wp2
    go_ret3
    exact HK.out _ (((St.pick 2 s6).drop).drewN nq)

end Go.Proofs.Ytnibgchgcggfbab
