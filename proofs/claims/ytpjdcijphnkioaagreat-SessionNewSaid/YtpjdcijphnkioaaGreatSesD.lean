/- A desk over an empty replica: Take of a Check and of its answer; the example. -/
import Derived.Test.YtpjdcijphnkioaaGreatSesC
import Derived.Test.YtpjdcijphnkioaaGreatNews
namespace Go.Proofs.YtpjdcijphnkioaaGreat
open Go.RowKit Go.Qd RepV

theorem chk_good : goodX (chkM 16 1 0) 16 [] [] = true ∧ goodX (chkM 17 1 0) 17 [] [] = true := ⟨by kernel_rfl, by kernel_rfl⟩
section
variable {W w : World} {R : List HP} {post : Ending → World → Prop} {A : RAd} {r : RepV} {c : List Int} {b : Nat} {tk : Option Nat} {num en lo : Int}

theorem good0_c {k : Nat} {num sum : Int} (h1 : 1 ≤ k) (h2 : k < 20) (hg : goodX (chkM k num sum) k [] [] = true) (st : St W w R) (K : ∀ w', St W w' R → post (.returned (.int .i64 0)) w') :
    Calls Tryz.prog 49 #[.agg (chkM k num sum).cells.toArray] w post :=
  goodx_c (m := chkM k num sum) (ks := []) (es := []) h1 h2 rfl (fun _ _ => RdS.none0 _ _) (by show 0 ≤ 4096; decide) (fun _ _ => RdS.none0 _ _) (by show 0 ≤ 4096; decide) (fun _ _ => RdS.none0 _ _) (by show 0 ≤ 4096; decide) st (fun w' s => by rw [if_pos hg]; exact K w' s)

/-- A message in its box. -/
theorem msg_ld {T : Nat} {m : MsgV} (s : St W w (row T 0 m.cells :: R)) : (loadG 87 (.pointer (some ⟨T, 0, none⟩))).run Tryz.prog w = .ok (.agg m.cells.toArray) w ∧ (loadG 3 (.pointer (some ⟨T, 0, none⟩))).run Tryz.prog w = .ok (.int .i64 m.kind) w ∧
    (loadG 85 (.pointer (some ⟨T, 11, none⟩))).run Tryz.prog w = .ok (.slice m.ea m.en m.eq) w ∧ (loadG 3 (.pointer (some ⟨T, 5, none⟩))).run Tryz.prog w = .ok (.int .i64 m.number) w ∧ (loadG 80 (.pointer (some ⟨T, 6, none⟩))).run Tryz.prog w = .ok (.int .u64 m.sum) w := by
  obtain ⟨l0, l1, l2, l3, l4, l5, l6, l7, l8, l9⟩ := msgL s
  exact ⟨lg58 s, l0, l9, l5, l6⟩

section
attribute [local go_sem ↓] execOp_ldAny execOp_b54 execOp_bChk
attribute [local go_sem] run_b54 run_bChk
set_option maxRecDepth 100000 in
set_option maxHeartbeats 8000000 in
theorem takeChk_c {p : Int} {n0 sm : Int} (hc : c.length = 20) (h0 : 0 ≤ p) (h1 : p < c.getD 0 0) (h2 : p ≠ r.site) (hk : 0 ≤ c.getD 17 0) (hix : r.ix = []) (hsm : ((r.sum : Nat) : Int) = sm) (hg : goodX (chkM 16 n0 sm) 16 [] [] = true)
    (st : St W w (row b 0 (deskC A.p c tk num en lo) :: RepA A r :: R))
    (K : ∀ B w', St W w' (row B 0 (LetV.cells ⟨p, chkM 17 n0 sm⟩) :: row b 0 (deskC A.p c tk num en lo) :: RepA A r :: R) → post (.returned (.tuple #[.slice (some ⟨B, 0, none⟩) 1 1, .slice none 0 0, .int .i64 0])) w') :
    Calls Tryz.prog 19 #[.pointer (some ⟨b, 0, none⟩), .int .i64 p, .agg (chkM 16 n0 sm).cells.toArray] w post := by
  have HK := hid K; clear K
  have HC := hid hc; have HIX := hid hix; have HKK := hid hk; have H0 := hid h0; have H1 := hid h1; have H2 := hid h2; have HG := hid hg; have HSM := hid hsm
  clear hc hix hk h0 h1 h2 hsm hg
  go_enter Tryz.func19, Tryz.ntmps19
  go_wp2_with (first
    | (refine wpl_boxA (vs := (chkM 16 n0 sm).cells) rfl (.tmp 2) rfl rfl st ?_; rintro T w1 s1; obtain ⟨l0, l1, l2, l3, l4⟩ := msg_ld s1; simp only [chkM, kindM] at l1 l2 l3)
    | (go_at_call 45; refine snode_yes HC.out H0.out H1.out H2.out (s1.perm [1, 1]) ?_)
    | (go_at_call 49; refine good0_c (by decide) (by decide) HG.out s1 ?_; rintro w2 s2; clear l0 l1 l2 l3 l4; obtain ⟨m0, m1, m2, m3, m4⟩ := msg_ld s2; simp only [chkM, kindM] at m1 m2 m3)
    | (go_at_call 50; refine smerge0_c s2 ?_; rintro w3 s3; clear m0 m1 m2 m3 m4; obtain ⟨n0', n1, n2, n3, n4⟩ := msg_ld s3; simp only [chkM, kindM] at n1 n2 n3))
  try simp only [Act.put, List.setIfInBounds_toArray, List.set_cons_succ, List.set_cons_zero]
  clear n0' n1 n2 n3 n4
  have s5 : St W w3 (row b 0 (deskC A.p c tk num en lo) :: RepA A r :: row T 0 (chkM 16 n0 sm).cells :: R) := s3.perm [1, 1]
  have u := s5.drew
  have lg := fun (w' : World) (R' : List HP) (s : St W w' (row b 0 (deskC A.p c tk num en lo) :: RepA A r :: row T 0 (chkM 16 n0 sm).cells :: R')) => show (loadG 28 (.pointer (some ⟨b, 0, none⟩))).run Tryz.prog w' = .ok (.pointer (some ⟨A.p, 0, none⟩)) w' ∧ (loadG 3 (.pointer (some ⟨T, 5, none⟩))).run Tryz.prog w' = .ok (.int .i64 n0) w' from ⟨(desk_ld HC.out s).1, (msg_ld (St.pick 2 s)).2.2.2.1⟩
  have LG := hid lg
  have gA := lg _ _ u
  clear lg
  go_region_held3 (fun w' => (loadG 28 (.pointer (some ⟨b, 0, none⟩))).run Tryz.prog w' = .ok (.pointer (some ⟨A.p, 0, none⟩)) w' ∧ (loadG 3 (.pointer (some ⟨T, 5, none⟩))).run Tryz.prog w' = .ok (.int .i64 n0) w')
    (first
      | with_reducible exact gC
      | with_reducible exact gB
      | with_reducible exact gA)
    (first
      | (go_at_call 47; refine rsum_c (St.pick 1 u) ?_; rw [HSM.out])
      | (go_at_call 48; refine part0_c HC.out HKK.out HIX.out u ?_; rintro w6 s6; have gB := LG.out _ _ s6)
      | (go_at_call 46; refine letter_c s6 ?_; rintro B w8 s8; have gC := LG.out _ _ (s8.perm [1, 1, 1])))
  all_goals
    go_wp2_with fail
    go_ret3
    exact HK.out _ _ ((s8.pick 3).drop)
end

theorem talk_at {T : Nat} {p n0 : Int} {full : Bool} (s : St W w (row T 0 (talkC p n0 full) :: R)) : w.cell? ⟨T, 0, none⟩ = some (.int .i64 p) ∧ w.cell? ⟨T, 1, none⟩ = some (.int .i64 n0) ∧ w.cell? ⟨T, 2, none⟩ = some (.bool full) ∧ w.cell? ⟨T, 3, none⟩ = some (.bool false) := by
  have f : ∀ i v, (talkC p n0 full)[i]? = some v → w.cell? ⟨T, i, none⟩ = some v := fun i v hv => by have := s.rowCell hv; rwa [Nat.zero_add] at this
  exact ⟨f 0 _ rfl, f 1 _ rfl, f 2 _ rfl, f 3 _ rfl⟩
theorem msg_at {T : Nat} {m : MsgV} (s : St W w (row T 0 m.cells :: R)) : w.cell? ⟨T, 0, none⟩ = some (.int .i64 m.kind) ∧ w.cell? ⟨T, 5, none⟩ = some (.int .i64 m.number) ∧ w.cell? ⟨T, 6, none⟩ = some (.int .u64 m.sum) ∧ w.cell? ⟨T, 11, none⟩ = some (.slice m.ea m.en m.eq) := by
  obtain ⟨c0, c1, c2, c3, c4, c5, c6, c7, c8, c9, c10, c11⟩ := boxM s
  exact ⟨c0, c5, c6, c11⟩

set_option maxRecDepth 100000 in
set_option maxHeartbeats 8000000 in
theorem mine_yes {T : Nat} {p n0 : Int} {full : Bool} {m : MsgV} (hc : c.length = 20) (hn : m.number = n0) (st : St W w (row b 0 (deskC A.p c (some T) num en lo) :: row T 0 (talkC p n0 full) :: R)) (K : ∀ w', St W w' (row b 0 (deskC A.p c (some T) num en lo) :: row T 0 (talkC p n0 full) :: R) → post (.returned (.bool true)) w') :
    Calls Tryz.prog 51 #[.pointer (some ⟨b, 0, none⟩), .int .i64 p, .agg m.cells.toArray] w post := by
  have HK := hid K; clear K
  have HC := hid hc; have HN := hid hn; clear hc hn
  go_enter Tryz.func51, Tryz.ntmps51
  go_wp2_with (refine wpl_boxA (vs := m.cells) rfl (.tmp 2) rfl rfl st ?_; rintro M w1 s1; have q0 := (desk_rest HC.out (St.pick 1 s1)).2.1; simp only [tkV] at q0; obtain ⟨q1, q2, q3, q4⟩ := talk_at (St.pick 2 s1); have q5 := (msg_at s1).2.1; rw [HN.out] at q5)
  go_quiet (fail)
  have s2 := s1.drewN nq
  generalize w1.drewN nq = w2 at s2 ⊢
  go_wp2_with fail
  exact HK.out _ s2.drop

set_option maxRecDepth 100000 in
set_option maxHeartbeats 8000000 in
theorem alike_yes {T : Nat} {p n0 : Int} {m : MsgV} (hc : c.length = 20) (hs : m.sum = ((r.sum : Nat) : Int)) (st : St W w (row b 0 (deskC A.p c (some T) num en lo) :: RepA A r :: row T 0 (talkC p n0 false) :: R)) (K : ∀ w', St W w' (row b 0 (deskC A.p c (some T) num en lo) :: RepA A r :: row T 0 (talkC p n0 false) :: R) → post (.returned (.bool true)) w') :
    Calls Tryz.prog 95 #[.pointer (some ⟨b, 0, none⟩), .agg m.cells.toArray] w post := by
  have HK := hid K; clear K
  have HC := hid hc
  obtain ⟨sm, hsm⟩ : ∃ sm : Int, ((r.sum : Nat) : Int) = sm := ⟨_, rfl⟩
  rw [hsm] at hs
  have HSM := hid hsm
  have HS := hid hs
  clear hc hs hsm
  go_enter Tryz.func95, Tryz.ntmps95
  go_wp2_with (refine wpl_boxA (vs := m.cells) rfl (.tmp 1) rfl rfl st ?_; rintro M w1 s1; have q0 := (desk_rest HC.out (St.pick 1 s1)).2.1; have q6 : w1.cell? ⟨b, 0, none⟩ = some (.pointer (some ⟨A.p, 0, none⟩)) := (desk_rest HC.out (St.pick 1 s1)).1; simp only [tkV] at q0; obtain ⟨q1, q2, q3, q4⟩ := talk_at (St.pick 3 s1); have q5 := (msg_at s1).2.2.1; rw [HS.out] at q5)
  go_quiet (first | (go_at_call 47; refine rsum_c ((St.pick 2 s1).drewN _) ?_; rw [HSM.out]; exact ⟨rfl, _, rfl⟩))
  have s2 := s1.drewN nq
  generalize w1.drewN nq = w2 at s2 ⊢
  go_wp2_with fail
  exact HK.out _ s2.drop

set_option maxRecDepth 100000 in
set_option maxHeartbeats 8000000 in
theorem send_c (hc : c.length = 20) (he : 0 ≤ en ∧ en ≤ 1000000) (st : St W w (row b 0 (deskC A.p c tk num en lo) :: R)) (K : ∀ w', St W w' (row b 0 (deskC A.p c none num (en + 1) lo) :: R) → post (.returned (.slice none 0 0)) w') :
    Calls Tryz.prog 96 #[.pointer (some ⟨b, 0, none⟩)] w post := by
  have HK := hid K; clear K
  have c21 := (desk_rest hc st).2.1
  have f21 := st.rowFree (i := 21) (by rw [desk_len hc]; decide)
  have s1 := st.rowSet (i := 21) (by rw [desk_len hc]; decide) (tkV none)
  rw [desk_tk hc] at s1
  rw [Nat.zero_add] at f21 s1
  simp only [tkV] at s1
  have c23 := (desk_rest hc s1).2.2.2.1
  have f23 := s1.rowFree (i := 23) (by rw [desk_len hc]; decide)
  have s2 := s1.rowSet (i := 23) (by rw [desk_len hc]; decide) (.int .i64 (en + 1))
  rw [desk_en hc] at s2
  rw [Nat.zero_add] at f23 s2
  have hw : IntKind.i64.wrap (en + 1) = en + 1 := IntWalk.i64_in _ (by omega)
  clear hc
  go_enter Tryz.func96, Tryz.ntmps96
  go_wp2_with fail
  exact HK.out _ s2

set_option maxRecDepth 100000 in
set_option maxHeartbeats 8000000 in
theorem match_yes {T : Nat} {p n0 : Int} {m : MsgV} (hc : c.length = 20) (he : 0 ≤ en ∧ en ≤ 1000000) (hs : m.sum = ((r.sum : Nat) : Int)) (st : St W w (row b 0 (deskC A.p c (some T) num en lo) :: RepA A r :: row T 0 (talkC p n0 false) :: R)) (K : ∀ w', St W w' (row b 0 (deskC A.p c none num (en + 1) lo) :: RepA A r :: row T 0 (talkC p n0 false) :: R) → post (.returned (.slice none 0 0)) w') :
    Calls Tryz.prog 52 #[.pointer (some ⟨b, 0, none⟩), .agg m.cells.toArray] w post := by
  have HK := hid K; clear K
  have HC := hid hc; have HS := hid hs; have HE := hid he
  clear hc hs he
  go_enter Tryz.func52, Tryz.ntmps52
  go_wp2_with (first
    | (refine wpl_boxA (vs := m.cells) rfl (.tmp 1) rfl rfl st ?_; rintro M w1 s1; have q0 := (desk_rest HC.out (St.pick 1 s1)).2.1; simp only [tkV] at q0; obtain ⟨q1, q2, q3, q4⟩ := talk_at (St.pick 3 s1))
    | (refine wpl_loadA (vs := m.cells) rfl (.tmp 3) (by rfl) agg58 (by rfl) rfl s1.rowAll ?_)
    | (go_at_call 95; refine alike_yes HC.out HS.out (s1.perm [1, 1, 1]) ?_; rintro w2 s2)
    | (go_at_call 96; refine send_c HC.out HE.out s2 ?_; rintro w3 s3))
  exact HK.out _ ((s3.pick 3).drop)

section
attribute [local go_sem ↓] execOp_ldAny
set_option maxRecDepth 100000 in
set_option maxHeartbeats 8000000 in
theorem takeMat_c {T : Nat} {p : Int} {n0 sm : Int} (hc : c.length = 20) (h0 : 0 ≤ p) (h1 : p < c.getD 0 0) (h2 : p ≠ r.site) (he : 0 ≤ en ∧ en ≤ 1000000) (hsm : ((r.sum : Nat) : Int) = sm) (hg : goodX (chkM 17 n0 sm) 17 [] [] = true)
    (st : St W w (row b 0 (deskC A.p c (some T) num en lo) :: RepA A r :: row T 0 (talkC p n0 false) :: R))
    (K : ∀ w', St W w' (row b 0 (deskC A.p c none num (en + 1) lo) :: RepA A r :: row T 0 (talkC p n0 false) :: R) → post (.returned (.tuple #[.slice none 0 0, .slice none 0 0, .int .i64 0])) w') :
    Calls Tryz.prog 19 #[.pointer (some ⟨b, 0, none⟩), .int .i64 p, .agg (chkM 17 n0 sm).cells.toArray] w post := by
  have HK := hid K; clear K
  have HC := hid hc; have H0 := hid h0; have H1 := hid h1; have H2 := hid h2; have HG := hid hg; have HSM := hid hsm; have HE := hid he
  clear hc h0 h1 h2 hsm hg he
  go_enter Tryz.func19, Tryz.ntmps19
  go_wp2_with (first
    | (refine wpl_boxA (vs := (chkM 17 n0 sm).cells) rfl (.tmp 2) rfl rfl st ?_; rintro M w1 s1; obtain ⟨l0, l1, l2, l3, l4⟩ := msg_ld s1; simp only [chkM, kindM] at l1 l2 l3)
    | (go_at_call 45; refine snode_yes HC.out H0.out H1.out H2.out (s1.perm [1, 1]) ?_)
    | (go_at_call 49; refine good0_c (by decide) (by decide) HG.out s1 ?_; rintro w2 s2; clear l0 l1 l2 l3 l4; obtain ⟨m0, m1, m2, m3, m4⟩ := msg_ld s2; simp only [chkM, kindM] at m1 m2 m3)
    | (go_at_call 50; refine smerge0_c s2 ?_; rintro w3 s3; clear m0 m1 m2 m3 m4; obtain ⟨n0', n1, n2, n3, n4⟩ := msg_ld s3; simp only [chkM, kindM] at n1 n2 n3)
    | (go_at_call 51; refine mine_yes HC.out rfl (s3.perm [1, 2]) ?_; rintro w4 s4; clear n0' n1 n2 n3 n4; obtain ⟨p0, p1, p2, p3, p4⟩ := msg_ld (St.pick 2 s4); simp only [chkM, kindM] at p1 p2 p3)
    | (go_at_call 52; refine match_yes HC.out HE.out HSM.out.symm (s4.perm [0, 2, 0]) ?_; rintro w5 s5))
  go_ret3
  exact HK.out _ ((s5.pick 3).drop)
end

theorem busy0_c (hc : c.length = 20) (st : St W w (row b 0 (deskC A.p c none num en lo) :: R)) (K : post (.returned (.tuple #[.int .i64 0, .bool false])) w) :
    Calls Tryz.prog 20 #[.pointer (some ⟨b, 0, none⟩)] w post := by
  have HK := hid K; clear K
  have q0 := (desk_rest hc st).2.1
  simp only [tkV] at q0
  clear hc
  go_enter Tryz.func20, Tryz.ntmps20
  go_wp2_with fail
  exact HK.out
theorem ended_c (hc : c.length = 20) (st : St W w (row b 0 (deskC A.p c tk num en lo) :: R)) (K : post (.returned (.int .i64 en)) w) :
    Calls Tryz.prog 21 #[.pointer (some ⟨b, 0, none⟩)] w post := by
  have HK := hid K; clear K
  have q0 := (desk_rest hc st).2.2.2.1
  clear hc
  go_enter Tryz.func21, Tryz.ntmps21
  go_wp2_with fail
  exact HK.out
end
end Go.Proofs.YtpjdcijphnkioaaGreat
