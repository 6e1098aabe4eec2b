/- A desk: New, and what it tells. -/
import Derived.Test.YtpjdcijphnkioaaGreatSesA
import Derived.Test.YtpjdcijphnkioaaGreatCfgs
import Derived.Test.YtpjdcijphnkioaaGreatWires
namespace Go.Proofs.YtpjdcijphnkioaaGreat
open Go.RowKit Go.Qd RepV

def tkV : Option Nat → Value | none => .pointer none | some t => .pointer (some ⟨t, 0, none⟩)
/-- A desk's cells: its replica, the configuration, the session, its number, how many ended, how many were lost. -/
def deskC (rp : Nat) (c : List Int) (tk : Option Nat) (num en lo : Int) : List Value := ptrV rp :: (ivs c ++ [tkV tk, .int .i64 num, .int .i64 en, .int .i64 lo])
theorem desk_rest {b rp : Nat} {c : List Int} {tk : Option Nat} {num en lo : Int} {W w : World} {R : List HP} (hc : c.length = 20) (s : St W w (row b 0 (deskC rp c tk num en lo) :: R)) :
    w.cell? ⟨b, 0, none⟩ = some (ptrV rp) ∧ w.cell? ⟨b, 21, none⟩ = some (tkV tk) ∧ w.cell? ⟨b, 22, none⟩ = some (.int .i64 num) ∧ w.cell? ⟨b, 23, none⟩ = some (.int .i64 en) ∧ w.cell? ⟨b, 24, none⟩ = some (.int .i64 lo) := by
  have hl : (ivs c).length = 20 := ivs_len20 hc
  have f : ∀ i v, (deskC rp c tk num en lo)[i]? = some v → w.cell? ⟨b, i, none⟩ = some v := fun i v hv => by have := s.rowCell hv; rwa [Nat.zero_add] at this
  have g : ∀ i v, [tkV tk, Value.int .i64 num, .int .i64 en, .int .i64 lo][i]? = some v → (deskC rp c tk num en lo)[21 + i]? = some v := fun i v hv => by
    unfold deskC
    rw [show 21 + i = (20 + i) + 1 by omega, List.getElem?_cons_succ, List.getElem?_append_right (by omega), hl, Nat.add_sub_cancel_left]
    exact hv
  exact ⟨f 0 _ rfl, f 21 _ (g 0 _ rfl), f 22 _ (g 1 _ rfl), f 23 _ (g 2 _ rfl), f 24 _ (g 3 _ rfl)⟩
theorem desk_cfg {b rp : Nat} {c : List Int} {tk : Option Nat} {num en lo : Int} {W w : World} {R : List HP} (hc : c.length = 20) (s : St W w (row b 0 (deskC rp c tk num en lo) :: R)) {i : Nat} (hi : i < 20) :
    w.cell? ⟨b, 1 + i, none⟩ = some (.int .i64 (c.getD i 0)) := by
  have hl : (ivs c).length = 20 := ivs_len20 hc
  have hv : (deskC rp c tk num en lo)[1 + i]? = some (.int .i64 (c.getD i 0)) := by
    unfold deskC
    rw [Nat.add_comm, List.getElem?_cons_succ, List.getElem?_append_left (by omega), ivs_get (by omega)]
    simp [hc, hi]
  have := s.rowCell hv; rwa [Nat.zero_add] at this
def bDsk (x y : Value) : Sem Value := Instr.build 135 #[(0, x), (1, y)]
theorem execOp_bDsk (ρ : Operand → Value) (dst : Option Tmp) (a c : Operand) (ty : TypeId) (pos : String) (after : Array Edge) (guard : Option (Nat × Bool)) :
    execOp ρ { dst, op := .build 135 #[(0, a), (1, c)], type := ty, pos, after, guard } = (do pure (.value (← bDsk (ρ a) (ρ c)))) := by simp [execOp, bDsk]
theorem run_bDsk {rp : Nat} {c : List Int} (hc : c.length = 20) (w : World) : (bDsk (.pointer (some ⟨rp, 0, none⟩)) (.agg (ivs c).toArray)).run Tryz.prog w = .ok (.agg (deskC rp c none 0 0 0).toArray) w := by
  obtain ⟨x0, x1, x2, x3, x4, x5, x6, x7, x8, x9, x10, x11, x12, x13, x14, x15, x16, x17, x18, x19, rfl⟩ := list20 hc
  kernel_rfl

section
attribute [local go_sem ↓] execOp_bDsk
variable {W w : World} {R : List HP} {post : Ending → World → Prop} {A : RAd} {r : RepV} {c : List Int}

theorem rep_clk (s : St W w (RepA A r :: R)) : w.cell? ⟨A.p, 5, none⟩ = some (.pointer (some ⟨A.clk, 0, none⟩)) ∧ St W w (row A.clk 0 [.int .i64 r.cnt, .int .i64 r.site] :: row A.p 0 (repC A r) :: TabE A.tb 0 r.room r.tab :: TabB A.ow 0 4096 r.own :: IdxH A.ix r.ix :: row A.gr 0 (graC A r) :: TabE A.gp 0 4096 r.gr :: JrnH A.jb A.d :: DskH A.d r.d :: R) :=
  ⟨(repPtr (RepA.open.1 s)).1, (RepA.open.1 s).pick 1⟩

set_option maxRecDepth 100000 in
set_option maxHeartbeats 4000000 in
theorem snew_bad (st : St W w R) (hc : c.length = 20) (hr : rightB c = false) {p : Value} (K : ∀ w', St W w' R → post (.returned (.tuple #[.pointer none, .int .i64 14])) w') :
    Calls Tryz.prog 10 #[.agg (ivs c).toArray, p] w post := by
  have HK := hid K; clear K
  have HC := hid hc; have HR := hid hr
  clear hc hr
  go_enter Tryz.func10, Tryz.ntmps10
  go_wp2_with (first
    | (refine wpl_boxA (vs := ivs c) rfl (.tmp 0) rfl rfl st ?_; rintro T w0 t0)
    | (refine wpl_loadA (vs := ivs c) rfl (.tmp 2) (by rfl) agg32 (by rfl) (ivs_len20 HC.out) t0.rowAll ?_)
    | (go_at_call 30; refine scheck_bad t0 HC.out HR.out ?_; rintro i w1 t1))
  exact HK.out _ t1.drop
set_option maxRecDepth 100000 in
set_option maxHeartbeats 4000000 in
theorem snew_site (st : St W w (RepA A r :: R)) (hc : c.length = 20) (hr : rightB c = true) (hs : c.getD 0 0 ≤ r.site) (K : ∀ w', St W w' (RepA A r :: R) → post (.returned (.tuple #[.pointer none, .int .i64 1])) w') :
    Calls Tryz.prog 10 #[.agg (ivs c).toArray, .pointer (some ⟨A.p, 0, none⟩)] w post := by
  have HK := hid K; clear K
  have HC := hid hc; have HR := hid hr
  obtain ⟨n, hn⟩ : ∃ n, c.getD 0 0 = n := ⟨_, rfl⟩
  have HN := hid hn
  obtain ⟨site, hsi⟩ : ∃ site, r.site = site := ⟨_, rfl⟩
  have HSI := hid hsi
  rw [hn, hsi] at hs
  have d1 : decide (n ≤ site) = true := decide_eq_true hs
  clear hc hr hn hsi hs
  go_enter Tryz.func10, Tryz.ntmps10
  go_wp2_with (first
    | (refine wpl_boxA (vs := ivs c) rfl (.tmp 0) rfl rfl st ?_; rintro T w0 t0)
    | (refine wpl_loadA (vs := ivs c) rfl (.tmp 2) (by rfl) agg32 (by rfl) (ivs_len20 HC.out) t0.rowAll ?_)
    | (go_at_call 30; refine scheck_c t0 HC.out HR.out ?_; rintro w1 t1; have k0 := cfg_at t1 (i := 0) (by rw [HC.out]; decide); rw [HN.out] at k0; obtain ⟨k1, s1⟩ := rep_clk (St.pick 1 t1); rw [HSI.out] at s1))
  go_quiet (first | (go_at_call 31; refine site_c (s1.drewN _) ⟨rfl, _, rfl⟩))
  have s2 := t1.drewN nq
  generalize w1.drewN nq = w2 at s2 ⊢
  go_wp2_with fail
  exact HK.out _ s2.drop
set_option maxRecDepth 100000 in
set_option maxHeartbeats 4000000 in
theorem snew_c (st : St W w (RepA A r :: R)) (hc : c.length = 20) (hr : rightB c = true) (hs : r.site < c.getD 0 0) (K : ∀ b w', St W w' (row b 0 (deskC A.p c none 0 0 0) :: RepA A r :: R) → post (.returned (.tuple #[.pointer (some ⟨b, 0, none⟩), .int .i64 0])) w') :
    Calls Tryz.prog 10 #[.agg (ivs c).toArray, .pointer (some ⟨A.p, 0, none⟩)] w post := by
  have HK := hid K; clear K
  have HC := hid hc; have HR := hid hr
  obtain ⟨n, hn⟩ : ∃ n, c.getD 0 0 = n := ⟨_, rfl⟩
  have HN := hid hn
  obtain ⟨site, hsi⟩ : ∃ site, r.site = site := ⟨_, rfl⟩
  have HSI := hid hsi
  rw [hn, hsi] at hs
  have d1 : decide (n ≤ site) = false := decide_eq_false (by omega)
  have hb := run_bDsk (rp := A.p) hc
  clear hc hr hn hsi hs
  go_enter Tryz.func10, Tryz.ntmps10
  go_wp2_with (first
    | (refine wpl_boxA (vs := ivs c) rfl (.tmp 0) rfl rfl st ?_; rintro T w0 t0)
    | (refine wpl_loadA (vs := ivs c) rfl (.tmp 2) (by rfl) agg32 (by rfl) (ivs_len20 HC.out) t0.rowAll ?_)
    | (go_at_call 30; refine scheck_c t0 HC.out HR.out ?_; rintro w1 t1; have k0 := cfg_at t1 (i := 0) (by rw [HC.out]; decide); rw [HN.out] at k0; obtain ⟨k1, s1⟩ := rep_clk (St.pick 1 t1); rw [HSI.out] at s1))
  go_quiet (first | (go_at_call 31; refine site_c (s1.drewN _) ⟨rfl, _, rfl⟩))
  have s2 := t1.drewN nq
  generalize w1.drewN nq = w2 at s2 ⊢
  have hl : (deskC A.p c none 0 0 0).length = 25 := by have := ivs_len20 HC.out; simp [deskC, this]
  go_wp2_with (first
    | (refine wpl_loadA (vs := ivs c) rfl (.tmp 2) (by rfl) agg32 (by rfl) (ivs_len20 HC.out) s2.rowAll ?_)
    | (refine wpl_boxA (vs := deskC A.p c none 0 0 0) rfl (.tmp 26) rfl rfl s2 ?_; rintro B w3 s3))
  exact HK.out _ _ ((s3.pick 1).drop)
end
end Go.Proofs.YtpjdcijphnkioaaGreat
