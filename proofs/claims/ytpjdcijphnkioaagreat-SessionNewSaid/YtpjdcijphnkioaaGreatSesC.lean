/- A desk over an empty replica: Start, Take of a Check and of its answer. -/
import Derived.Test.YtpjdcijphnkioaaGreatSesB
import Derived.Test.YtpjdcijphnkioaaGreatLib
import Derived.BigQuiet
namespace Go.Proofs.YtpjdcijphnkioaaGreat
open Go.RowKit Go.Qd RepV

/-- A message of a session, without entries. -/
def chkM (k num sum : Int) : MsgV := { kindM k with number := num, sum := sum }
def talkC (p num : Int) (full : Bool) : List Value := [.int .i64 p, .int .i64 num, .bool full, .bool false, .int .i64 0, .int .i64 0, .int .i64 0, .string ByteArray.empty, .slice none 0 0]
theorem talk_one (p num : Int) (full : Bool) : ∀ u ∈ talkC p num full, u.oneCell' = true := by
  intro u hu; simp only [talkC, List.mem_cons, List.not_mem_nil, or_false] at hu
  rcases hu with rfl | rfl | rfl | rfl | rfl | rfl | rfl | rfl | rfl <;> rfl
theorem desk_len {rp : Nat} {c : List Int} {tk : Option Nat} {num en lo : Int} (hc : c.length = 20) : (deskC rp c tk num en lo).length = 25 := by simp [deskC, ivs_len20 hc]
theorem desk_num {rp : Nat} {c : List Int} {tk : Option Nat} {num en lo x : Int} (hc : c.length = 20) : (deskC rp c tk num en lo).set 22 (.int .i64 x) = deskC rp c tk x en lo := by
  obtain ⟨x0, x1, x2, x3, x4, x5, x6, x7, x8, x9, x10, x11, x12, x13, x14, x15, x16, x17, x18, x19, rfl⟩ := list20 hc
  rfl
theorem desk_en {rp : Nat} {c : List Int} {tk : Option Nat} {num en lo x : Int} (hc : c.length = 20) : (deskC rp c tk num en lo).set 23 (.int .i64 x) = deskC rp c tk num x lo := by
  obtain ⟨x0, x1, x2, x3, x4, x5, x6, x7, x8, x9, x10, x11, x12, x13, x14, x15, x16, x17, x18, x19, rfl⟩ := list20 hc
  rfl
theorem desk_tk {rp : Nat} {c : List Int} {tk t : Option Nat} {num en lo : Int} (hc : c.length = 20) : (deskC rp c tk num en lo).set 21 (tkV t) = deskC rp c t num en lo := by
  obtain ⟨x0, x1, x2, x3, x4, x5, x6, x7, x8, x9, x10, x11, x12, x13, x14, x15, x16, x17, x18, x19, rfl⟩ := list20 hc
  rfl
def bsL (x : Value) : Sem Value := Instr.buildSlice 76 1 #[(0, x)]
theorem execOp_bsL (ρ : Operand → Value) (dst : Option Tmp) (a : Operand) (ty : TypeId) (pos : String) (after : Array Edge) (guard : Option (Nat × Bool)) :
    execOp ρ { dst, op := .buildSlice 76 1 #[(0, a)], type := ty, pos, after, guard } = (do pure (.value (← bsL (ρ a)))) := by simp [execOp, bsL]
theorem run_bsL (x : LetV) (w : World) : (bsL (.agg x.cells.toArray)).run Tryz.prog w = .ok (.slice (some ⟨w.heap.size, 0, none⟩) 1 1) (w.alloc (.cells x.cells.toArray 89)) := by kernel_rfl
def bChk (a b c d : Value) : Sem Value := Instr.build 87 #[(0, a), (5, b), (6, c), (9, d)]
theorem execOp_bChk (ρ : Operand → Value) (dst : Option Tmp) (a b c d : Operand) (ty : TypeId) (pos : String) (after : Array Edge) (guard : Option (Nat × Bool)) :
    execOp ρ { dst, op := .build 87 #[(0, a), (5, b), (6, c), (9, d)], type := ty, pos, after, guard } = (do pure (.value (← bChk (ρ a) (ρ b) (ρ c) (ρ d)))) := by simp [execOp, bChk]
theorem run_bChk (k num sum : Int) (w : World) : (bChk (.int .i64 k) (.int .i64 num) (.int .u64 sum) (.slice none 0 0)).run Tryz.prog w = .ok (.agg (chkM k num sum).cells.toArray) w := by kernel_rfl

section
variable {W w : World} {R : List HP} {post : Ending → World → Prop} {A : RAd} {r : RepV} {c : List Int} {b : Nat} {tk : Option Nat} {num en lo : Int}

set_option maxRecDepth 100000 in
set_option maxHeartbeats 4000000 in
theorem snode_yes {p : Int} (hc : c.length = 20) (h0 : 0 ≤ p) (h1 : p < c.getD 0 0) (h2 : p ≠ r.site) (st : St W w (row b 0 (deskC A.p c tk num en lo) :: RepA A r :: R))
    (K : post (.returned (.bool true)) w) : Calls Tryz.prog 45 #[.pointer (some ⟨b, 0, none⟩), .int .i64 p] w post := by
  have HK := hid K; clear K
  obtain ⟨n, hn⟩ : ∃ n, c.getD 0 0 = n := ⟨_, rfl⟩
  obtain ⟨site, hsi⟩ : ∃ site, r.site = site := ⟨_, rfl⟩
  rw [hn] at h1
  rw [hsi] at h2
  have k1 : w.cell? ⟨b, 1, none⟩ = some (.int .i64 n) := by have := desk_cfg hc st (i := 0) (by decide); rw [hn] at this; exact this
  have k0 : w.cell? ⟨b, 0, none⟩ = some (.pointer (some ⟨A.p, 0, none⟩)) := (desk_rest hc st).1
  obtain ⟨k2, s1⟩ := rep_clk (St.pick 1 st)
  rw [hsi] at s1
  have d0 : decide (0 ≤ p) = true := decide_eq_true h0
  have d1 : decide (p < n) = true := decide_eq_true h1
  have d2 : (p != site) = true := by simp [h2]
  clear hn hsi h0 h1 h2
  go_enter Tryz.func45, Tryz.ntmps45
  go_wp2_with (go_at_call 31; refine site_c s1 ?_)
  exact HK.out

section
attribute [local go_sem ↓] execOp_bsL
attribute [local go_sem] run_bsL
set_option maxRecDepth 100000 in
set_option maxHeartbeats 4000000 in
theorem letter_c {p : Int} {m : MsgV} (st : St W w R) (K : ∀ B w', St W w' (row B 0 (LetV.cells ⟨p, m⟩) :: R) → post (.returned (.slice (some ⟨B, 0, none⟩) 1 1)) w') :
    Calls Tryz.prog 46 #[.int .i64 p, .agg m.cells.toArray] w post := by
  have HK := hid K; clear K
  go_enter Tryz.func46, Tryz.ntmps46
  go_wp2_with (first
    | (refine wpl_boxA (vs := m.cells) rfl (.tmp 1) rfl rfl st ?_; rintro T w1 s1; have s2 := s1.alloc (LetV.cells ⟨p, m⟩).toArray 89)
    | (refine wpl_loadA (vs := m.cells) rfl (.tmp 3) (by rfl) agg58 (by rfl) rfl s1.rowAll ?_)
    | (refine wpl_build rfl rfl (v := .agg (LetV.cells ⟨p, m⟩).toArray) (by kernel_rfl) ?_))
  exact HK.out _ _ ((s2.pick 1).drop)
end

section
attribute [local go_sem ↓] execOp_ldAny
theorem part_ld {M : Nat} (hc : c.length = 20) (s : St W w (row M 0 MkV.none.cells :: row b 0 (deskC A.p c tk num en lo) :: RepA A r :: R)) :
    (loadG 28 (.pointer (some ⟨b, 0, none⟩))).run Tryz.prog w = .ok (.pointer (some ⟨A.p, 0, none⟩)) w ∧ (loadG 83 (.pointer (some ⟨M, 0, none⟩))).run Tryz.prog w = .ok (.agg MkV.none.cells.toArray) w ∧
    (loadG 3 (.pointer (some ⟨b, 18, none⟩))).run Tryz.prog w = .ok (.int .i64 (c.getD 17 0)) w :=
  ⟨run_ldP (by kernel_rfl) (desk_rest hc (St.pick 1 s)).1, run_loadG agg_mk (vs := MkV.none.cells) rfl s.rowAll, run_ldP (by kernel_rfl) (desk_cfg hc (St.pick 1 s) (i := 17) (by decide))⟩
set_option maxRecDepth 100000 in
set_option maxHeartbeats 4000000 in
theorem part0_c (hc : c.length = 20) (hk : 0 ≤ c.getD 17 0) (hix : r.ix = []) (st : St W w (row b 0 (deskC A.p c tk num en lo) :: RepA A r :: R))
    (K : ∀ w', St W w' (row b 0 (deskC A.p c tk num en lo) :: RepA A r :: R) → post (.returned (.slice none 0 0)) w') :
    Calls Tryz.prog 48 #[.pointer (some ⟨b, 0, none⟩), .agg MkV.none.cells.toArray] w post := by
  have HK := hid K; clear K
  have HC := hid hc; have HIX := hid hix
  obtain ⟨ch, hch⟩ : ∃ ch, c.getD 17 0 = ch := ⟨_, rfl⟩
  rw [hch] at hk
  have HCH := hid hch; have HKK := hid hk
  clear hc hix hch hk
  go_enter Tryz.func48, Tryz.ntmps48
  go_wp2_with (refine wpl_boxA (vs := MkV.none.cells) rfl (.tmp 1) rfl rfl st ?_; rintro M w1 s1)
  try simp only [Act.put, List.setIfInBounds_toArray, List.set_cons_succ, List.set_cons_zero]
  have hN : Nonempty (Cls (fun w' => St W w' (row M 0 MkV.none.cells :: row b 0 (deskC A.p c tk num en lo) :: RepA A r :: R))) := Cls.inh s1
  have f0 := fun s : Cls (fun w' => St W w' (row M 0 MkV.none.cells :: row b 0 (deskC A.p c tk num en lo) :: RepA A r :: R)) => (part_ld HC.out s.h).1
  have f1 := fun s : Cls (fun w' => St W w' (row M 0 MkV.none.cells :: row b 0 (deskC A.p c tk num en lo) :: RepA A r :: R)) => (part_ld HC.out s.h).2.1
  have f2 := fun s : Cls (fun w' => St W w' (row M 0 MkV.none.cells :: row b 0 (deskC A.p c tk num en lo) :: RepA A r :: R)) => (part_ld HC.out s.h).2.2
  rw [HCH.out] at f2
  refine wp_region_class_tail (fun w' => St W w' (row M 0 MkV.none.cells :: row b 0 (deskC A.p c tk num en lo) :: RepA A r :: R)) 10 (by kernel_rfl) (by kernel_rfl) (St.drew s1) ?_
  simp only [List.take_succ_cons, List.take_zero, List.drop_succ_cons, List.drop_zero]
  repeat (go_big_quiet_step ((fail)))
  clear hN f0 f1 f2
  refine wpQuiet_nil ?_
  rintro ⟨w7, s7⟩
  dsimp only
  go_wp2_with (go_at_call 84; refine rbelow0_c HKK.out HIX.out (St.pick 2 s7) ?_; rintro w8 s8)
  exact HK.out _ ((s8.pick 1).drop.pick 1)
end

set_option maxRecDepth 100000 in
set_option maxHeartbeats 4000000 in
theorem smerge0_c {p : Value} (st : St W w R) (K : ∀ w', St W w' R → post (.returned (.tuple #[.slice none 0 0, .int .i64 0])) w') :
    Calls Tryz.prog 50 #[p, .slice none 0 0] w post := by
  have HK := hid K; clear K
  go_enter Tryz.func50, Tryz.ntmps50
  go_wp2_with fail
  go_loopw [4, 13] (fun oo ii wr => oo = .slice none 0 0 ∧ ii = .int .i64 0 ∧ St W wr R) (fun _ _ _ => 0)
  case atStart => exact ⟨rfl, rfl, st⟩
  case round =>
    obtain ⟨rfl, rfl, sr⟩ := hrel
    go_wp2_with fail
    exact HK.out _ sr

section
attribute [local go_sem ↓] execOp_ldAny execOp_b54 execOp_bChk
attribute [local go_sem] run_b54 run_bChk
theorem desk_ld (hc : c.length = 20) (s : St W w (row b 0 (deskC A.p c tk num en lo) :: R)) :
    (loadG 28 (.pointer (some ⟨b, 0, none⟩))).run Tryz.prog w = .ok (.pointer (some ⟨A.p, 0, none⟩)) w ∧ (loadG 133 (.pointer (some ⟨b, 21, none⟩))).run Tryz.prog w = .ok (tkV tk) w ∧
    (loadG 3 (.pointer (some ⟨b, 22, none⟩))).run Tryz.prog w = .ok (.int .i64 num) w :=
  ⟨run_ldP (by kernel_rfl) (desk_rest hc s).1, run_ldP (by kernel_rfl) (desk_rest hc s).2.1, run_ldP (by kernel_rfl) (desk_rest hc s).2.2.1⟩
set_option maxRecDepth 100000 in
set_option maxHeartbeats 8000000 in
theorem start0_c {p : Int} {full : Bool} (hc : c.length = 20) (h0 : 0 ≤ p) (h1 : p < c.getD 0 0) (h2 : p ≠ r.site) (hk : 0 ≤ c.getD 17 0) (hix : r.ix = []) (st : St W w (row b 0 (deskC A.p c none 0 en lo) :: RepA A r :: R))
    (K : ∀ B T w', St W w' (row B 0 (LetV.cells ⟨p, chkM 16 1 (r.sum : Nat)⟩) :: row b 0 (deskC A.p c (some T) 1 en lo) :: RepA A r :: row T 0 (talkC p 1 full) :: R) → post (.returned (.tuple #[.slice (some ⟨B, 0, none⟩) 1 1, .int .i64 0])) w') :
    Calls Tryz.prog 18 #[.pointer (some ⟨b, 0, none⟩), .int .i64 p, .bool full] w post := by
  have HK := hid K; clear K
  have HC := hid hc; have HIX := hid hix; have HKK := hid hk; have H0 := hid h0; have H1 := hid h1; have H2 := hid h2
  obtain ⟨l0, l1, l2⟩ := desk_ld hc st
  simp only [tkV] at l1
  have c22 := (desk_rest hc st).2.2.1
  have f22 := st.rowFree (i := 22) (by rw [desk_len hc]; decide)
  have s2 := st.rowSet (i := 22) (by rw [desk_len hc]; decide) (.int .i64 1)
  rw [desk_num hc] at s2
  rw [Nat.zero_add] at f22 s2
  have m2 := (desk_ld hc s2).2.2
  have hb : bits BinOp.and IntKind.i64 1 4294967295 = 1 := by kernel_rfl
  obtain ⟨sm, hsm⟩ : ∃ sm : Int, ((r.sum : Nat) : Int) = sm := ⟨_, rfl⟩
  rw [hsm] at HK
  have HSM := hid hsm
  clear hc hix hk h0 h1 h2 hsm
  go_enter Tryz.func18, Tryz.ntmps18
  go_wp2_with (first
    | (go_at_call 45; refine snode_yes HC.out H0.out H1.out H2.out st ?_)
    | (refine wpl_build rfl rfl (v := .agg (talkC p 1 full).toArray) (by kernel_rfl) ?_)
    | (refine wpl_boxA (vs := talkC p 1 full) rfl (.tmp 35) rfl rfl s2 ?_; rintro T w3 s3
       have c21 := (desk_rest HC.out (St.pick 1 s3)).2.1
       simp only [tkV] at c21
       have f21 := (St.pick 1 s3).rowFree (i := 21) (by rw [desk_len HC.out]; decide)
       have s4 := (St.pick 1 s3).rowSet (i := 21) (by rw [desk_len HC.out]; decide) (tkV (some T))
       rw [desk_tk HC.out] at s4
       rw [Nat.zero_add] at f21 s4
       simp only [tkV] at s4))
  try simp only [Act.put, List.setIfInBounds_toArray, List.set_cons_succ, List.set_cons_zero]
  have s5 := s4.perm [0, 1]
  clear c21 f21 s3 c22 f22 s2 l0 l1 l2 m2
  have hN : Nonempty (Cls (fun w' => St W w' (row b 0 (deskC A.p c (some T) 1 en lo) :: RepA A r :: row T 0 (talkC p 1 full) :: R))) := Cls.inh s5
  have f0 := fun s : Cls (fun w' => St W w' (row b 0 (deskC A.p c (some T) 1 en lo) :: RepA A r :: row T 0 (talkC p 1 full) :: R)) => (desk_ld HC.out s.h).1
  have f2 := fun s : Cls (fun w' => St W w' (row b 0 (deskC A.p c (some T) 1 en lo) :: RepA A r :: row T 0 (talkC p 1 full) :: R)) => (desk_ld HC.out s.h).2.2
  refine wp_region_class_tail (fun w' => St W w' (row b 0 (deskC A.p c (some T) 1 en lo) :: RepA A r :: row T 0 (talkC p 1 full) :: R)) 14 (by kernel_rfl) (by kernel_rfl) (St.drew s5) ?_
  simp only [List.take_succ_cons, List.take_zero, List.drop_succ_cons, List.drop_zero]
  repeat (go_big_quiet_step ((rename_i s; first
    | (go_at_call 47; refine rsum_c (St.pick 1 s.h) ?_; rw [HSM.out]; exact Cls.end _ s.h)
    | (go_at_call 48; refine part0_c HC.out HKK.out HIX.out s.h ?_; rintro w2 s2; exact Cls.end _ s2))))
  clear hN f0 f2
  refine wpQuiet_nil ?_
  rintro ⟨w7, s7⟩
  dsimp only
  go_wp2_with (go_at_call 46; refine letter_c s7 ?_; rintro B w8 s8)
  exact HK.out _ _ _ s8
end
end
end Go.Proofs.YtpjdcijphnkioaaGreat
