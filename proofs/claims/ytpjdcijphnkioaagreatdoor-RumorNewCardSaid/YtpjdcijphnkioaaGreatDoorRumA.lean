/- A mill: its cells; New, node, what it tells. -/
import Derived.Test.YtpjdcijphnkioaaGreatDoorNews
import Derived.Test.YtpjdcijphnkioaaGreatDoorCfgs
import Derived.Test.YtpjdcijphnkioaaGreatDoorClks
import Derived.Test.YtpjdcijphnkioaaGreatDoorLib
import Derived.Deep.RegionLaw
import Derived.Deep.DeepCutAuto
namespace Go.Proofs.YtpjdcijphnkioaaGreatDoor
open Go.RowKit Go.Qd RepV

/-- A rumor. -/
structure TkV where
  m : MkV
  n : Int
def TkV.cells (x : TkV) : List Value := [.int .i64 x.m.c, .int .i64 x.m.s, .string x.m.key, .int .i64 x.n]
def tkC (l : List TkV) : List Value := (l.map TkV.cells).flatten
theorem tk_one (x : TkV) : ∀ u ∈ x.cells, u.oneCell' = true := by
  intro u hu; simp only [TkV.cells, List.mem_cons, List.not_mem_nil, or_false] at hu
  rcases hu with rfl | rfl | rfl | rfl <;> rfl
theorem tkC_one (x : TkV) : tkC [x] = x.cells := by simp [tkC]
theorem agg_tk : AggT Tryz.prog 142 4 := ⟨⟨_, Tryz.underlying142, rfl⟩, by kernel_rfl⟩
/-- A mill's cells. -/
def millC (rp : Nat) (c : List Int) (dp : Nat) (a : Option Addr) (n cp : Nat) : List Value := ptrV rp :: (ivs c ++ [ptrV dp, .slice a n cp])
theorem mill_len {rp dp n cp : Nat} {c : List Int} {a : Option Addr} (hc : c.length = 20) : (millC rp c dp a n cp).length = 23 := by simp [millC, ivs_len20 hc]
theorem mill_at {b rp dp n cp : Nat} {c : List Int} {a : Option Addr} {W w : World} {R : List HP} (hc : c.length = 20) (s : St W w (row b 0 (millC rp c dp a n cp) :: R)) :
    w.cell? ⟨b, 0, none⟩ = some (.pointer (some ⟨rp, 0, none⟩)) ∧ w.cell? ⟨b, 21, none⟩ = some (.pointer (some ⟨dp, 0, none⟩)) ∧ w.cell? ⟨b, 22, none⟩ = some (.slice a n cp) ∧ w.frozen? ⟨b, 22, none⟩ = false := by
  have hl : (ivs c).length = 20 := ivs_len20 hc
  have f : ∀ i v, (millC rp c dp a n cp)[i]? = some v → w.cell? ⟨b, i, none⟩ = some v := fun i v hv => by have := s.rowCell hv; rwa [Nat.zero_add] at this
  have g : ∀ i v, [ptrV dp, Value.slice a n cp][i]? = some v → (millC rp c dp a n cp)[21 + i]? = some v := fun i v hv => by
    unfold millC
    rw [show 21 + i = (20 + i) + 1 by omega, List.getElem?_cons_succ, List.getElem?_append_right (by omega), hl, Nat.add_sub_cancel_left]
    exact hv
  exact ⟨f 0 _ rfl, f 21 _ (g 0 _ rfl), f 22 _ (g 1 _ rfl), by have := s.rowFree (i := 22) (by rw [mill_len hc]; decide); rwa [Nat.zero_add] at this⟩
theorem mill_cfg {b rp dp n cp : Nat} {c : List Int} {a : Option Addr} {W w : World} {R : List HP} (hc : c.length = 20) (s : St W w (row b 0 (millC rp c dp a n cp) :: R)) {i : Nat} (hi : i < 20) :
    w.cell? ⟨b, 1 + i, none⟩ = some (.int .i64 (c.getD i 0)) := by
  have hl : (ivs c).length = 20 := ivs_len20 hc
  have hv : (millC rp c dp a n cp)[1 + i]? = some (.int .i64 (c.getD i 0)) := by
    unfold millC
    rw [Nat.add_comm, List.getElem?_cons_succ, List.getElem?_append_left (by omega), ivs_get (by omega)]
    simp [hc, hi]
  have := s.rowCell hv; rwa [Nat.zero_add] at this
theorem mill_set {rp dp n cp n' cp' : Nat} {c : List Int} {a a' : Option Addr} (hc : c.length = 20) : (millC rp c dp a n cp).set 22 (.slice a' n' cp') = millC rp c dp a' n' cp' := by
  obtain ⟨x0, x1, x2, x3, x4, x5, x6, x7, x8, x9, x10, x11, x12, x13, x14, x15, x16, x17, x18, x19, rfl⟩ := list20 hc
  rfl
def bMil (x y z : Value) : Sem Value := Instr.build 120 #[(0, x), (1, y), (2, z)]
theorem execOp_bMil (ρ : Operand → Value) (dst : Option Tmp) (x y z : Operand) (ty : TypeId) (pos : String) (after : Array Edge) (guard : Option (Nat × Bool)) :
    execOp ρ { dst, op := .build 120 #[(0, x), (1, y), (2, z)], type := ty, pos, after, guard } = (do pure (.value (← bMil (ρ x) (ρ y) (ρ z)))) := by simp [execOp, bMil]
theorem run_bMil {rp dp : Nat} {c : List Int} (hc : c.length = 20) (w : World) : (bMil (.pointer (some ⟨rp, 0, none⟩)) (.agg (ivs c).toArray) (.pointer (some ⟨dp, 0, none⟩))).run Tryz.prog w = .ok (.agg (millC rp c dp none 0 0).toArray) w := by
  obtain ⟨x0, x1, x2, x3, x4, x5, x6, x7, x8, x9, x10, x11, x12, x13, x14, x15, x16, x17, x18, x19, rfl⟩ := list20 hc
  kernel_rfl

section
attribute [local go_sem ↓] execOp_bMil
variable {W w : World} {R : List HP} {post : Ending → World → Prop} {A : RAd} {r : RepV} {c : List Int} {b dp : Nat}

theorem rep_clk (s : St W w (RepA A r :: R)) : w.cell? ⟨A.p, 5, none⟩ = some (.pointer (some ⟨A.clk, 0, none⟩)) ∧ St W w (row A.clk 0 [.int .i64 r.cnt, .int .i64 r.site] :: row A.p 0 (repC A r) :: TabE A.tb 0 r.room r.tab :: TabB A.ow 0 4096 r.own :: IdxH A.ix r.ix :: row A.gr 0 (graC A r) :: TabE A.gp 0 4096 r.gr :: JrnH A.jb A.d :: DskH A.d r.d :: R) :=
  ⟨(repPtr (RepA.open.1 s)).1, (RepA.open.1 s).pick 1⟩

set_option maxRecDepth 100000 in
set_option maxHeartbeats 4000000 in
theorem mnew_bad (st : St W w R) (hc : c.length = 20) (hr : rightB c = false) {p q : Value} (K : ∀ w', St W w' R → post (.returned (.tuple #[.pointer none, .int .i64 14])) w') :
    Calls Tryz.prog 9 #[.agg (ivs c).toArray, p, q] w post := by
  have HK := hid K; clear K
  have HC := hid hc; have HR := hid hr
  clear hc hr
  go_enter Tryz.func9, Tryz.ntmps9
  go_wp2_with (first
    | (refine wpl_boxA (vs := ivs c) rfl (.tmp 0) rfl rfl st ?_; rintro T w0 t0)
    | (refine wpl_loadA (vs := ivs c) rfl (.tmp 3) (by rfl) agg32 (by rfl) (ivs_len20 HC.out) t0.rowAll ?_)
    | (go_at_call 27; refine scheck_bad t0 HC.out HR.out ?_; rintro i w1 t1))
  exact HK.out _ t1.drop
set_option maxRecDepth 100000 in
set_option maxHeartbeats 4000000 in
theorem mnew_site (st : St W w (RepA A r :: R)) (hc : c.length = 20) (hr : rightB c = true) (hs : c.getD 0 0 ≤ r.site) {q : Value} (K : ∀ w', St W w' (RepA A r :: R) → post (.returned (.tuple #[.pointer none, .int .i64 1])) w') :
    Calls Tryz.prog 9 #[.agg (ivs c).toArray, .pointer (some ⟨A.p, 0, none⟩), q] w post := by
  have HK := hid K; clear K
  have HC := hid hc; have HR := hid hr
  obtain ⟨n, hn⟩ : ∃ n, c.getD 0 0 = n := ⟨_, rfl⟩
  have HN := hid hn
  obtain ⟨site, hsi⟩ : ∃ site, r.site = site := ⟨_, rfl⟩
  have HSI := hid hsi
  rw [hn, hsi] at hs
  have d1 : decide (n ≤ site) = true := decide_eq_true hs
  clear hc hr hn hsi hs
  go_enter Tryz.func9, Tryz.ntmps9
  go_wp2_with (first
    | (refine wpl_boxA (vs := ivs c) rfl (.tmp 0) rfl rfl st ?_; rintro T w0 t0)
    | (refine wpl_loadA (vs := ivs c) rfl (.tmp 3) (by rfl) agg32 (by rfl) (ivs_len20 HC.out) t0.rowAll ?_)
    | (go_at_call 27; refine scheck_c t0 HC.out HR.out ?_; rintro w1 t1; have k0 := cfg_at t1 (i := 0) (by rw [HC.out]; decide); rw [HN.out] at k0; obtain ⟨k1, s1⟩ := rep_clk (St.pick 1 t1); rw [HSI.out] at s1))
  go_quiet (first | (go_at_call 28; refine site_c (s1.drewN _) ⟨rfl, _, rfl⟩))
  have s2 := t1.drewN nq
  generalize w1.drewN nq = w2 at s2 ⊢
  go_wp2_with fail
  exact HK.out _ s2.drop
set_option maxRecDepth 100000 in
set_option maxHeartbeats 4000000 in
theorem mnew_c (st : St W w (RepA A r :: R)) (hc : c.length = 20) (hr : rightB c = true) (hs : r.site < c.getD 0 0) (K : ∀ b w', St W w' (row b 0 (millC A.p c dp none 0 0) :: RepA A r :: R) → post (.returned (.tuple #[.pointer (some ⟨b, 0, none⟩), .int .i64 0])) w') :
    Calls Tryz.prog 9 #[.agg (ivs c).toArray, .pointer (some ⟨A.p, 0, none⟩), .pointer (some ⟨dp, 0, none⟩)] w post := by
  have HK := hid K; clear K
  have HC := hid hc; have HR := hid hr
  obtain ⟨n, hn⟩ : ∃ n, c.getD 0 0 = n := ⟨_, rfl⟩
  have HN := hid hn
  obtain ⟨site, hsi⟩ : ∃ site, r.site = site := ⟨_, rfl⟩
  have HSI := hid hsi
  rw [hn, hsi] at hs
  have d1 : decide (n ≤ site) = false := decide_eq_false (by omega)
  have hb := run_bMil (rp := A.p) (dp := dp) hc
  clear hc hr hn hsi hs
  go_enter Tryz.func9, Tryz.ntmps9
  go_wp2_with (first
    | (refine wpl_boxA (vs := ivs c) rfl (.tmp 0) rfl rfl st ?_; rintro T w0 t0)
    | (refine wpl_loadA (vs := ivs c) rfl (.tmp 3) (by rfl) agg32 (by rfl) (ivs_len20 HC.out) t0.rowAll ?_)
    | (go_at_call 27; refine scheck_c t0 HC.out HR.out ?_; rintro w1 t1; have k0 := cfg_at t1 (i := 0) (by rw [HC.out]; decide); rw [HN.out] at k0; obtain ⟨k1, s1⟩ := rep_clk (St.pick 1 t1); rw [HSI.out] at s1))
  go_quiet (first | (go_at_call 28; refine site_c (s1.drewN _) ⟨rfl, _, rfl⟩))
  have s2 := t1.drewN nq
  generalize w1.drewN nq = w2 at s2 ⊢
  have hl : (millC A.p c dp none 0 0).length = 23 := mill_len HC.out
  go_wp2_with (first
    | (refine wpl_loadA (vs := ivs c) rfl (.tmp 3) (by rfl) agg32 (by rfl) (ivs_len20 HC.out) s2.rowAll ?_)
    | (refine wpl_boxA (vs := millC A.p c dp none 0 0) rfl (.tmp 29) rfl rfl s2 ?_; rintro B w3 s3))
  exact HK.out _ _ ((s3.pick 1).drop)

set_option maxRecDepth 100000 in
set_option maxHeartbeats 4000000 in
theorem mnode_yes {p : Int} {a : Option Addr} {n cp : Nat} (hc : c.length = 20) (h0 : 0 ≤ p) (h1 : p < c.getD 0 0) (h2 : p ≠ r.site) (st : St W w (row b 0 (millC A.p c dp a n cp) :: RepA A r :: R))
    (K : post (.returned (.bool true)) w) : Calls Tryz.prog 46 #[.pointer (some ⟨b, 0, none⟩), .int .i64 p] w post := by
  have HK := hid K; clear K
  obtain ⟨nn, hn⟩ : ∃ n, c.getD 0 0 = n := ⟨_, rfl⟩
  obtain ⟨site, hsi⟩ : ∃ site, r.site = site := ⟨_, rfl⟩
  rw [hn] at h1
  rw [hsi] at h2
  have k1 : w.cell? ⟨b, 1, none⟩ = some (.int .i64 nn) := by have := mill_cfg hc st (i := 0) (by decide); rw [hn] at this; exact this
  have k0 := (mill_at hc st).1
  obtain ⟨k2, s1⟩ := rep_clk (St.pick 1 st)
  rw [hsi] at s1
  have d0 : decide (0 ≤ p) = true := decide_eq_true h0
  have d1 : decide (p < nn) = true := decide_eq_true h1
  have d2 : (p != site) = true := by simp [h2]
  clear hn hsi h0 h1 h2
  go_enter Tryz.func46, Tryz.ntmps46
  go_wp2_with (go_at_call 28; refine site_c s1 ?_)
  exact HK.out

set_option maxRecDepth 100000 in
/-- Dice without numbers. -/
theorem clone0_c (K : post (.returned (.slice none 0 0)) w) : Calls Tryz.prog 29 #[.slice none 0 0] w post := by
  have hcmp : ∀ w ao n c, (binOp .eql 54 (.slice ao n c) (.slice none 0 0)).run Tryz.prog w = .ok (.bool ao.isNone) w := fun w ao n c => Lib.run_eql_slice_nil w 54 3 ao n c 0 0 Tryz.underlying54
  have HK := hid K; clear K
  go_enter Tryz.func29, Tryz.ntmps29
  go_wp2_with fail
  exact HK.out
set_option maxRecDepth 100000 in
theorem dicenew_c (st : St W w R) (K : ∀ d w', St W w' (row d 0 [.slice none 0 0] :: R) → post (.returned (.pointer (some ⟨d, 0, none⟩))) w') : Calls Tryz.prog 11 #[.slice none 0 0] w post := by
  have HK := hid K; clear K
  have s1 := st.alloc #[.slice none 0 0] 123
  go_enter Tryz.func11, Tryz.ntmps11
  go_wp2_with (first
    | (go_at_call 29; refine clone0_c ?_)
    | (refine wpl_build rfl rfl (v := .agg [Value.slice none 0 0].toArray) (by kernel_rfl) ?_)
    | (refine wpl_boxA (vs := [.slice none 0 0]) rfl (.tmp 5) rfl rfl st ?_; rintro d w2 s2))
  exact HK.out _ _ s2
end
end Go.Proofs.YtpjdcijphnkioaaGreatDoor
