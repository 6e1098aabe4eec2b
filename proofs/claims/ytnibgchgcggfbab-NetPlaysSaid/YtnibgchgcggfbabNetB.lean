/- net: a net in memory; between, has, Len, Dropped. -/
import Derived.Test.YtnibgchgcggfbabNetA
import Derived.Test.YtnibgchgcggfbabMapK
namespace Go.Proofs.Ytnibgchgcggfbab
open Go.RowKit Go.Qd

/-- A parcel in memory. -/
structure PV where
  f : Int
  t : Int
  a : Option Addr
  n : Nat
  c : Nat
  bs : List Int
  sp : Bool

def bvs (bs : List Int) : List Value := bs.map (Value.int .u8)
theorem bvs_one (bs : List Int) : ∀ u ∈ bvs bs, u.oneCell' = true := ints_oneCell .u8 bs
theorem bvs_len {w : World} {ao : Option Addr} {n c : Nat} {zs : List Int} (h : RdS w 1 ao n c (bvs zs)) : zs.length = n := by have := h.len; simpa [bvs] using this
def PV.cells (p : PV) : List Value := [iv p.f, iv p.t, .slice p.a p.n p.c, .bool p.sp]
def pcells (ps : List PV) : List Value := (ps.map PV.cells).flatten
def PV.bytes (p : PV) : HP := OwnS 1 p.a p.n p.c (bvs p.bs)
def encL (k : Int × Int) : Value := .agg #[iv k.1, iv k.2]

structure NetV where
  nodes : Int
  room : Int
  ps : List PV
  cuts : List ((Int × Int) × Value)
  dropped : Int

def netCells (N : NetV) (al : Option Addr) (n c m : Nat) : List Value := [iv N.nodes, iv N.room, .slice al n c, .map (some m), iv N.dropped]

def NetA (b : Nat) (N : NetV) : HP := fun h => ∃ x : Option Addr × Nat × Nat × Nat,
  sepL [row b 0 (netCells N x.1 x.2.1 x.2.2.1 x.2.2.2), OwnS 4 x.1 x.2.1 x.2.2.1 (pcells N.ps), MapA encL x.2.2.2 N.cuts, sepL (N.ps.map PV.bytes)] h

theorem NetA.open {W w : World} {R : List HP} {b : Nat} {N : NetV} (st : St W w (NetA b N :: R)) :
    ∃ al n c m, St W w (row b 0 (netCells N al n c m) :: OwnS 4 al n c (pcells N.ps) :: MapA encL m N.cuts :: sepL (N.ps.map PV.bytes) :: R) := by
  obtain ⟨x, s⟩ := St.ex (F := fun (x : Option Addr × Nat × Nat × Nat) h => sepL [row b 0 (netCells N x.1 x.2.1 x.2.2.1 x.2.2.2), OwnS 4 x.1 x.2.1 x.2.2.1 (pcells N.ps), MapA encL x.2.2.2 N.cuts, sepL (N.ps.map PV.bytes)] h) st
  exact ⟨_, _, _, _, (St.flat _).1 s⟩

theorem NetA.close {W w : World} {R : List HP} {b : Nat} {N : NetV} {al : Option Addr} {n c m : Nat}
    (st : St W w (row b 0 (netCells N al n c m) :: OwnS 4 al n c (pcells N.ps) :: MapA encL m N.cuts :: sepL (N.ps.map PV.bytes) :: R)) : St W w (NetA b N :: R) :=
  ((St.flat [row b 0 (netCells N al n c m), OwnS 4 al n c (pcells N.ps), MapA encL m N.cuts, sepL (N.ps.map PV.bytes)]).2 st).imp fun _ x => ⟨(al, n, c, m), x⟩

theorem pcells_len {w : World} {a : Option Addr} {n c : Nat} {l : List PV} (h : RdS w 4 a n c (pcells l)) : l.length = n := by
  have h1 := h.len
  have : ∀ l : List PV, (pcells l).length = l.length * 4 := by
    intro l
    induction l with
    | nil => rfl
    | cons x l ih => show (x.cells ++ pcells l).length = _; rw [List.length_append, ih, List.length_cons]; simp [PV.cells]; omega
  rw [this] at h1
  omega

/-- The five cells of a net. -/
theorem net5 {W w : World} {R : List HP} {b : Nat} {N : NetV} {al : Option Addr} {n c m : Nat} (s : St W w (row b 0 (netCells N al n c m) :: R)) :
    w.cell? ⟨b, 0, none⟩ = some (iv N.nodes) ∧ w.cell? ⟨b, 1, none⟩ = some (iv N.room) ∧ w.cell? ⟨b, 2, none⟩ = some (.slice al n c) ∧ w.cell? ⟨b, 3, none⟩ = some (.map (some m)) ∧ w.cell? ⟨b, 4, none⟩ = some (iv N.dropped) :=
  ⟨s.rowCell (i := 0) rfl, by have := s.rowCell (i := 1) rfl; rwa [Nat.zero_add] at this, by have := s.rowCell (i := 2) rfl; rwa [Nat.zero_add] at this,
    by have := s.rowCell (i := 3) rfl; rwa [Nat.zero_add] at this, by have := s.rowCell (i := 4) rfl; rwa [Nat.zero_add] at this⟩

def hasB (N : NetV) (i : Int) : Bool := decide (0 ≤ i) && decide (i < N.ps.length)

theorem has_c {W w : World} {R : List HP} {post : Ending → World → Prop} {b : Nat} {N : NetV} {i : Int} (st : St W w (NetA b N :: R))
    (K : post (.returned (.bool (hasB N i))) w) : Calls Try.prog 27 #[.pointer (some ⟨b, 0, none⟩), .int .i64 i] w post := by
  obtain ⟨al, n, c, m, s⟩ := NetA.open st
  obtain ⟨_, _, h2, _, _⟩ := net5 s
  have hl := pcells_len (OwnS.rd (St.pick 1 s))
  unfold hasB at K
  rw [hl] at K
  by_cases h : 0 ≤ i
  · rw [decide_eq_true h, Bool.true_and] at K
    have HK := hid K; clear K
    go_enter Try.func27, Try.ntmps27
    go_wp2
    exact HK.out
  · rw [decide_eq_false h, Bool.false_and] at K
    have HK := hid K; clear K
    go_enter Try.func27, Try.ntmps27
    go_wp2
    exact HK.out

theorem len_c {W w : World} {R : List HP} {post : Ending → World → Prop} {b : Nat} {N : NetV} (st : St W w (NetA b N :: R))
    (K : post (.returned (.int .i64 N.ps.length)) w) : Calls Try.prog 12 #[.pointer (some ⟨b, 0, none⟩)] w post := by
  obtain ⟨al, n, c, m, s⟩ := NetA.open st
  obtain ⟨_, _, h2, _, _⟩ := net5 s
  have hl := pcells_len (OwnS.rd (St.pick 1 s))
  rw [hl] at K
  have HK := hid K; clear K
  go_enter Try.func12, Try.ntmps12
  go_wp2
  exact HK.out

theorem load_c {w : World} {post : Ending → World → Prop} {b o : Nat} {x : Int} (hc : w.cell? ⟨b, o, none⟩ = some (.int .i64 x)) (K : post (.returned (.int .i64 x)) w) :
    Calls Try.prog 29 #[.pointer (some ⟨b, o, none⟩)] w post := by
  have hl := run_call_load (P := Try.prog) Try.func38 (by kernel_rfl) (by kernel_rfl) (by kernel_rfl) .i64 (by kernel_rfl) hc
  have HK := hid K; clear K
  go_enter Try.func29, Try.ntmps29
  go_wp2
  exact HK.out

theorem dropped_c {W w : World} {R : List HP} {post : Ending → World → Prop} {b : Nat} {N : NetV} (st : St W w (NetA b N :: R))
    (K : post (.returned (.int .i64 N.dropped)) w) : Calls Try.prog 13 #[.pointer (some ⟨b, 0, none⟩)] w post := by
  obtain ⟨al, n, c, m, s⟩ := NetA.open st
  obtain ⟨_, _, h2, _, h4⟩ := net5 s
  have HK := hid K; clear K
  go_enter Try.func13, Try.ntmps13
  go_wp2_with (go_at_call 29; refine load_c h4 ?_)
  exact HK.out

theorem add_c {w : World} {post : Ending → World → Prop} {b o : Nat} {x : Int} (hc : w.cell? ⟨b, o, none⟩ = some (.int .i64 x)) (hf : w.frozen? ⟨b, o, none⟩ = false) (hx : x + 1 ≤ 9223372036854775807) (hx0 : 0 ≤ x)
    (K : ∀ v, post (.returned v) (w.setCell ⟨b, o, none⟩ (.int .i64 (x + 1)))) : Calls Try.prog 37 #[.pointer (some ⟨b, o, none⟩), .int .i64 1] w post := by
  have hl := run_call_add (P := Try.prog) Try.func40 (by kernel_rfl) (by kernel_rfl) (by kernel_rfl) .i64 (by kernel_rfl) (y := 1) (s := x + 1) hc hf (by simp [go_sem]; exact IntWalk.i64_in _ (by omega))
  have HK := hid K; clear K
  go_enter Try.func37, Try.ntmps37
  go_wp2
  exact HK.out _

def linkB (nodes a b : Int) : Bool := decide (0 ≤ min a b) && decide (max a b < nodes) && (a != b)

theorem linkB_eq (n a b : Int) : linkB n a b = decide (0 ≤ a ∧ 0 ≤ b ∧ a < n ∧ b < n ∧ a ≠ b) := by
  unfold linkB
  rw [Bool.eq_iff_iff]
  simp only [Bool.and_eq_true, decide_eq_true_eq, bne_iff_ne]
  omega

theorem between_c {W w : World} {R : List HP} {post : Ending → World → Prop} {b : Nat} {N : NetV} {x y : Int} (st : St W w (NetA b N :: R))
    (K : ∀ w', St W w' (NetA b N :: R) → post (.returned (.tuple #[.agg #[.int .i64 (min x y), .int .i64 (max x y)], .bool (linkB N.nodes x y)])) w') :
    Calls Try.prog 24 #[.pointer (some ⟨b, 0, none⟩), .int .i64 x, .int .i64 y] w post := by
  obtain ⟨al, n, c, m, s⟩ := NetA.open st
  obtain ⟨h0, _, _, _, _⟩ := net5 s
  have hlt := World.block_lt_of_cell? _ _ h0
  have h0' : (w.alloc (.cells #[.int .i64 0, .int .i64 0] 70)).cell? ⟨b, 0, none⟩ = some (iv N.nodes) := (World.cell?_alloc_past _ _ _ (by exact hlt)).trans h0
  have HK := hid K; clear K
  go_enter Try.func24, Try.ntmps24
  go_wp2_with (first
    | (refine wpl_min rfl _ _ rfl rfl rfl ?_)
    | (refine wpl_max rfl _ _ rfl rfl rfl ?_))
  all_goals first
    | (have e : linkB N.nodes x y = false := by rw [linkB_eq, decide_eq_false_iff_not]; omega
       refine bodyPost_ret (v := .tuple #[.agg #[.int .i64 (min x y), .int .i64 (max x y)], .bool (linkB N.nodes x y)]) (by rw [e]; simp [results, Try.results24, go_sem]) rfl (HK.out _ (st.alloc _ _).drop))
    | (have e : linkB N.nodes x y = (x != y) := by rw [linkB_eq, Bool.eq_iff_iff, decide_eq_true_eq, bne_iff_ne]; omega
       refine bodyPost_ret (v := .tuple #[.agg #[.int .i64 (min x y), .int .i64 (max x y)], .bool (linkB N.nodes x y)]) (by rw [e]; simp [results, Try.results24, go_sem]) rfl (HK.out _ (st.alloc _ _).drop))

end Go.Proofs.Ytnibgchgcggfbab
