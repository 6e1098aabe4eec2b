/- NetPlays: an act is done with both (printed by mkNetRK.py). -/
import Derived.Test.YtnibgchgcggfbabNetRJ
namespace Go.Proofs.Ytnibgchgcggfbab
open Go.RowKit Go.Qd
attribute [local go_sem ↓] execOp_load43 execOp_store43

theorem boxV {W w : World} {R : List HP} {B : Nat} {x0 x1 x2 x3 x4 x5 x6 : Value} (s : St W w (row B 0 [x0, x1, x2, x3, x4, x5, x6] :: R)) :
    w.cell? ⟨B, 0, none⟩ = some x0 ∧ w.cell? ⟨B, 1, none⟩ = some x1 ∧ w.cell? ⟨B, 2, none⟩ = some x2 ∧ w.cell? ⟨B, 3, none⟩ = some x3 ∧ w.cell? ⟨B, 4, none⟩ = some x4 ∧ w.cell? ⟨B, 5, none⟩ = some x5 ∧ w.cell? ⟨B, 6, none⟩ = some x6 :=
  ⟨s.rowCell (i := 0) rfl, by have := s.rowCell (i := 1) rfl; rwa [Nat.zero_add] at this, by have := s.rowCell (i := 2) rfl; rwa [Nat.zero_add] at this, by have := s.rowCell (i := 3) rfl; rwa [Nat.zero_add] at this,
    by have := s.rowCell (i := 4) rfl; rwa [Nat.zero_add] at this, by have := s.rowCell (i := 5) rfl; rwa [Nat.zero_add] at this, by have := s.rowCell (i := 6) rfl; rwa [Nat.zero_add] at this⟩

section
variable {W w : World} {R : List HP} {post : Ending → World → Prop} {b k : Nat} {N : NetV} {M : RN} {qs E : List PV}

set_option maxRecDepth 100000 in
set_option maxHeartbeats 4000000 in
theorem do0 {i x y by_ : Int} {a : Option Addr} {m c : Nat} {L : List Int} {cut : Bool} (st : St W w (NetA b N :: OwnS 4 M.a M.n M.c (pcells qs) :: sepL (E.map PV.bytes) :: R)) (h : PS k N M qs E) (hk : k ≤ 4000) (rx : RdS W 1 a m c (bvs L)) (hm : m ≤ 100)
    (K : ∀ w' N' M' qs' E', St W w' (NetA b N' :: OwnS 4 M'.a M'.n M'.c (pcells qs') :: sepL (E'.map PV.bytes) :: R) → PS (k + 1) N' M' qs' E' → post (.returned (.tuple #[.agg (rnC M').toArray, .bool true])) w') :
    Calls Try.prog 16 #[.pointer (some ⟨b, 0, none⟩), .agg (rnC M).toArray, .agg #[.int .i64 0, .int .i64 i, .int .i64 x, .int .i64 y, .slice a m c, .int .u8 by_, .bool cut]] w post := by
  have HK := hid K; clear K
  have HP := hid h; clear h
  obtain ⟨ok, hok⟩ : ∃ ok, sendOk N x y = ok := ⟨_, rfl⟩
  have HO := hid hok; have HX := hid rx; clear hok rx
  go_enter Try.func16, Try.ntmps16
  go_wp2_with (first
    | (refine wpl_boxA (vs := rnC M) rfl (.tmp 1) rfl rfl st ?_; rintro T w0 s0)
    | (refine wpl_boxA (vs := [.int .i64 0, .int .i64 i, .int .i64 x, .int .i64 y, .slice a m c, .int .u8 by_, .bool cut]) rfl (.tmp 2) rfl rfl s0 ?_; rintro A w1 s1)
    | (refine wpl_allocA rfl rfl zero43 s1 ?_; rintro G w2 s2; obtain ⟨h0, h1, h2, h3, h4, h5, h6⟩ := boxV (St.pick 1 s2))
    | (refine wpl_loadA (vs := rnC M) rfl (.tmp 4) (by rfl) agg43 (by rfl) (rnC_len _) (St.pick 2 s2).rowAll ?_)
    | (go_at_call 30; refine rs_send (St.perm [4, 4] s2) HP.out hk HX.out hm ?_; rw [HO.out]; rintro w3 M' qs' E' s3 hF; have HF := hid hF; clear hF)
    | (refine wpl_allocA rfl rfl zero43 s3 ?_; rintro C w4 s4)
    | (refine wpl_storeA (vs := rnC M') rfl (.tmp 8) (.tmp 38) (by rfl) agg43 (by rfl) (by rfl) (rnC_len _) (rnC_one _) s4 (rnC_len _) ?_; rintro w5 s5))
  have s6 := (St.pick 6 s5).drew
  have fA := And.intro (lg43 (St.pick 1 s6)) (And.intro (sg43 (M := M') (St.pick 4 s6)) (And.intro (boxV (St.pick 5 s6)).2.2.1 (And.intro (boxV (St.pick 5 s6)).2.2.2.1 ((boxV (St.pick 5 s6)).2.2.2.2.1))))
  go_region_held3 (fun w' => (loadG 43 (.pointer (some ⟨C, 0, none⟩))).run Try.prog w' = .ok (.agg (rnC M').toArray) w' ∧ (storeG 43 (.pointer (some ⟨G, 0, none⟩)) (.agg (rnC M').toArray)).run Try.prog w' = .ok () (w'.setCells G 0 (rnC M')) ∧ w'.cell? ⟨A, 2, none⟩ = some (.int .i64 x) ∧ w'.cell? ⟨A, 3, none⟩ = some (.int .i64 y) ∧ w'.cell? ⟨A, 4, none⟩ = some (.slice a m c))
    (first
      | with_reducible exact fA
      | with_reducible exact g7
      | with_reducible exact g8)
    (first | (go_at_call 8; refine ps_send s6 HP.out hk HX.out hm ?_; rw [HO.out]; rintro w7 N' s7 hN; have HN := hid hN; clear hN; have g7 := And.intro (lg43 (St.pick 1 s7)) (And.intro (sg43 (M := M') (St.pick 4 s7)) (And.intro (boxV (St.pick 5 s7)).2.2.1 (And.intro (boxV (St.pick 5 s7)).2.2.2.1 ((boxV (St.pick 5 s7)).2.2.2.2.1)))); have s8 := set43 (M := M') (St.pick 4 s7); have g8 := And.intro (lg43 (St.pick 2 s8)) (And.intro (sg43 (M := M') s8) (And.intro (boxV (St.pick 5 s8)).2.2.1 (And.intro (boxV (St.pick 5 s8)).2.2.2.1 ((boxV (St.pick 5 s8)).2.2.2.2.1))))))
  all_goals
    go_wp2
    have hL := run_loadA agg43 (rnC_len _) s8.rowAll
    exact bodyPost_ret (v := .tuple #[.agg (rnC M').toArray, .bool true]) (by simp [results, Try.results16, asAddr, hL]) rfl (HK.out _ _ _ _ _ ((s8.perm [0, 1, 3, 3]).dropN 4) (HF.out _ HN.out))

set_option maxRecDepth 100000 in
set_option maxHeartbeats 4000000 in
theorem do2 {i x y by_ : Int} {a : Option Addr} {m c : Nat} {L : List Int} {cut : Bool} (st : St W w (NetA b N :: OwnS 4 M.a M.n M.c (pcells qs) :: sepL (E.map PV.bytes) :: R)) (h : PS k N M qs E) (hk : k ≤ 4000) 
    (K : ∀ w' N' M' qs' E', St W w' (NetA b N' :: OwnS 4 M'.a M'.n M'.c (pcells qs') :: sepL (E'.map PV.bytes) :: R) → PS (k + 1) N' M' qs' E' → post (.returned (.tuple #[.agg (rnC M').toArray, .bool true])) w') :
    Calls Try.prog 16 #[.pointer (some ⟨b, 0, none⟩), .agg (rnC M).toArray, .agg #[.int .i64 2, .int .i64 i, .int .i64 x, .int .i64 y, .slice a m c, .int .u8 by_, .bool cut]] w post := by
  have HK := hid K; clear K
  have HP := hid h; clear h
  obtain ⟨e, he⟩ : ∃ e, loseC N i = e := ⟨_, rfl⟩
  have HO := hid he; clear he
  go_enter Try.func16, Try.ntmps16
  go_wp2_with (first
    | (refine wpl_boxA (vs := rnC M) rfl (.tmp 1) rfl rfl st ?_; rintro T w0 s0)
    | (refine wpl_boxA (vs := [.int .i64 2, .int .i64 i, .int .i64 x, .int .i64 y, .slice a m c, .int .u8 by_, .bool cut]) rfl (.tmp 2) rfl rfl s0 ?_; rintro A w1 s1)
    | (refine wpl_allocA rfl rfl zero43 s1 ?_; rintro G w2 s2; obtain ⟨h0, h1, h2, h3, h4, h5, h6⟩ := boxV (St.pick 1 s2))
    | (refine wpl_loadA (vs := rnC M) rfl (.tmp 4) (by rfl) agg43 (by rfl) (rnC_len _) (St.pick 2 s2).rowAll ?_)
    | (go_at_call 32; refine rs_lose (St.perm [4, 4] s2) HP.out hk ?_; rw [HO.out]; rintro w3 M' qs' E' s3 hF; have HF := hid hF; clear hF)
    | (refine wpl_allocA rfl rfl zero43 s3 ?_; rintro C w4 s4)
    | (refine wpl_storeA (vs := rnC M') rfl (.tmp 17) (.tmp 93) (by rfl) agg43 (by rfl) (by rfl) (rnC_len _) (rnC_one _) s4 (rnC_len _) ?_; rintro w5 s5))
  have s6 := (St.pick 6 s5).drew
  have fA := And.intro (lg43 (St.pick 1 s6)) (And.intro (sg43 (M := M') (St.pick 4 s6)) ((boxV (St.pick 5 s6)).2.1))
  go_region_held3 (fun w' => (loadG 43 (.pointer (some ⟨C, 0, none⟩))).run Try.prog w' = .ok (.agg (rnC M').toArray) w' ∧ (storeG 43 (.pointer (some ⟨G, 0, none⟩)) (.agg (rnC M').toArray)).run Try.prog w' = .ok () (w'.setCells G 0 (rnC M')) ∧ w'.cell? ⟨A, 1, none⟩ = some (.int .i64 i))
    (first
      | with_reducible exact fA
      | with_reducible exact g7
      | with_reducible exact g8)
    (first | (go_at_call 21; refine ps_lose s6 HP.out hk ?_; rw [HO.out]; rintro w7 N' s7 hN; have HN := hid hN; clear hN; have g7 := And.intro (lg43 (St.pick 1 s7)) (And.intro (sg43 (M := M') (St.pick 4 s7)) ((boxV (St.pick 5 s7)).2.1)); have s8 := set43 (M := M') (St.pick 4 s7); have g8 := And.intro (lg43 (St.pick 2 s8)) (And.intro (sg43 (M := M') s8) ((boxV (St.pick 5 s8)).2.1))))
  all_goals
    go_wp2
    have hL := run_loadA agg43 (rnC_len _) s8.rowAll
    exact bodyPost_ret (v := .tuple #[.agg (rnC M').toArray, .bool true]) (by simp [results, Try.results16, asAddr, hL]) rfl (HK.out _ _ _ _ _ ((s8.perm [0, 1, 3, 3]).dropN 4) (HF.out _ HN.out))

set_option maxRecDepth 100000 in
set_option maxHeartbeats 4000000 in
theorem do3 {i x y by_ : Int} {a : Option Addr} {m c : Nat} {L : List Int} {cut : Bool} (st : St W w (NetA b N :: OwnS 4 M.a M.n M.c (pcells qs) :: sepL (E.map PV.bytes) :: R)) (h : PS k N M qs E) (hk : k ≤ 4000) 
    (K : ∀ w' N' M' qs' E', St W w' (NetA b N' :: OwnS 4 M'.a M'.n M'.c (pcells qs') :: sepL (E'.map PV.bytes) :: R) → PS (k + 1) N' M' qs' E' → post (.returned (.tuple #[.agg (rnC M').toArray, .bool true])) w') :
    Calls Try.prog 16 #[.pointer (some ⟨b, 0, none⟩), .agg (rnC M).toArray, .agg #[.int .i64 3, .int .i64 i, .int .i64 x, .int .i64 y, .slice a m c, .int .u8 by_, .bool cut]] w post := by
  have HK := hid K; clear K
  have HP := hid h; clear h
  obtain ⟨e, he⟩ : ∃ e, copyC N i = e := ⟨_, rfl⟩
  have HO := hid he; clear he
  go_enter Try.func16, Try.ntmps16
  go_wp2_with (first
    | (refine wpl_boxA (vs := rnC M) rfl (.tmp 1) rfl rfl st ?_; rintro T w0 s0)
    | (refine wpl_boxA (vs := [.int .i64 3, .int .i64 i, .int .i64 x, .int .i64 y, .slice a m c, .int .u8 by_, .bool cut]) rfl (.tmp 2) rfl rfl s0 ?_; rintro A w1 s1)
    | (refine wpl_allocA rfl rfl zero43 s1 ?_; rintro G w2 s2; obtain ⟨h0, h1, h2, h3, h4, h5, h6⟩ := boxV (St.pick 1 s2))
    | (refine wpl_loadA (vs := rnC M) rfl (.tmp 4) (by rfl) agg43 (by rfl) (rnC_len _) (St.pick 2 s2).rowAll ?_)
    | (go_at_call 33; refine rs_copy (St.perm [4, 4] s2) HP.out hk ?_; rw [HO.out]; rintro w3 M' qs' E' s3 hF; have HF := hid hF; clear hF)
    | (refine wpl_allocA rfl rfl zero43 s3 ?_; rintro C w4 s4)
    | (refine wpl_storeA (vs := rnC M') rfl (.tmp 19) (.tmp 109) (by rfl) agg43 (by rfl) (by rfl) (rnC_len _) (rnC_one _) s4 (rnC_len _) ?_; rintro w5 s5))
  have s6 := (St.pick 6 s5).drew
  have fA := And.intro (lg43 (St.pick 1 s6)) (And.intro (sg43 (M := M') (St.pick 4 s6)) ((boxV (St.pick 5 s6)).2.1))
  go_region_held3 (fun w' => (loadG 43 (.pointer (some ⟨C, 0, none⟩))).run Try.prog w' = .ok (.agg (rnC M').toArray) w' ∧ (storeG 43 (.pointer (some ⟨G, 0, none⟩)) (.agg (rnC M').toArray)).run Try.prog w' = .ok () (w'.setCells G 0 (rnC M')) ∧ w'.cell? ⟨A, 1, none⟩ = some (.int .i64 i))
    (first
      | with_reducible exact fA
      | with_reducible exact g7
      | with_reducible exact g8)
    (first | (go_at_call 9; refine ps_copy s6 HP.out hk ?_; rw [HO.out]; rintro w7 N' s7 hN; have HN := hid hN; clear hN; have g7 := And.intro (lg43 (St.pick 1 s7)) (And.intro (sg43 (M := M') (St.pick 4 s7)) ((boxV (St.pick 5 s7)).2.1)); have s8 := set43 (M := M') (St.pick 4 s7); have g8 := And.intro (lg43 (St.pick 2 s8)) (And.intro (sg43 (M := M') s8) ((boxV (St.pick 5 s8)).2.1))))
  all_goals
    go_wp2
    have hL := run_loadA agg43 (rnC_len _) s8.rowAll
    exact bodyPost_ret (v := .tuple #[.agg (rnC M').toArray, .bool true]) (by simp [results, Try.results16, asAddr, hL]) rfl (HK.out _ _ _ _ _ ((s8.perm [0, 1, 3, 3]).dropN 4) (HF.out _ HN.out))

set_option maxRecDepth 100000 in
set_option maxHeartbeats 4000000 in
theorem do4 {i x y by_ : Int} {a : Option Addr} {m c : Nat} {L : List Int} {cut : Bool} (st : St W w (NetA b N :: OwnS 4 M.a M.n M.c (pcells qs) :: sepL (E.map PV.bytes) :: R)) (h : PS k N M qs E) (hk : k ≤ 4000) 
    (K : ∀ w' N' M' qs' E', St W w' (NetA b N' :: OwnS 4 M'.a M'.n M'.c (pcells qs') :: sepL (E'.map PV.bytes) :: R) → PS (k + 1) N' M' qs' E' → post (.returned (.tuple #[.agg (rnC M').toArray, .bool true])) w') :
    Calls Try.prog 16 #[.pointer (some ⟨b, 0, none⟩), .agg (rnC M).toArray, .agg #[.int .i64 4, .int .i64 i, .int .i64 x, .int .i64 y, .slice a m c, .int .u8 by_, .bool cut]] w post := by
  have HK := hid K; clear K
  have HP := hid h; clear h
  obtain ⟨e, he⟩ : ∃ e, turnC N i x by_ = e := ⟨_, rfl⟩
  have HO := hid he; clear he
  go_enter Try.func16, Try.ntmps16
  go_wp2_with (first
    | (refine wpl_boxA (vs := rnC M) rfl (.tmp 1) rfl rfl st ?_; rintro T w0 s0)
    | (refine wpl_boxA (vs := [.int .i64 4, .int .i64 i, .int .i64 x, .int .i64 y, .slice a m c, .int .u8 by_, .bool cut]) rfl (.tmp 2) rfl rfl s0 ?_; rintro A w1 s1)
    | (refine wpl_allocA rfl rfl zero43 s1 ?_; rintro G w2 s2; obtain ⟨h0, h1, h2, h3, h4, h5, h6⟩ := boxV (St.pick 1 s2))
    | (refine wpl_loadA (vs := rnC M) rfl (.tmp 4) (by rfl) agg43 (by rfl) (rnC_len _) (St.pick 2 s2).rowAll ?_)
    | (go_at_call 34; refine rs_turn (St.perm [4, 4] s2) HP.out hk ?_; rw [HO.out]; rintro w3 M' qs' E' s3 hF; have HF := hid hF; clear hF)
    | (refine wpl_allocA rfl rfl zero43 s3 ?_; rintro C w4 s4)
    | (refine wpl_storeA (vs := rnC M') rfl (.tmp 21) (.tmp 129) (by rfl) agg43 (by rfl) (by rfl) (rnC_len _) (rnC_one _) s4 (rnC_len _) ?_; rintro w5 s5))
  have s6 := (St.pick 6 s5).drew
  have fA := And.intro (lg43 (St.pick 1 s6)) (And.intro (sg43 (M := M') (St.pick 4 s6)) (And.intro (boxV (St.pick 5 s6)).2.1 (And.intro (boxV (St.pick 5 s6)).2.2.1 ((boxV (St.pick 5 s6)).2.2.2.2.2.1))))
  go_region_held3 (fun w' => (loadG 43 (.pointer (some ⟨C, 0, none⟩))).run Try.prog w' = .ok (.agg (rnC M').toArray) w' ∧ (storeG 43 (.pointer (some ⟨G, 0, none⟩)) (.agg (rnC M').toArray)).run Try.prog w' = .ok () (w'.setCells G 0 (rnC M')) ∧ w'.cell? ⟨A, 1, none⟩ = some (.int .i64 i) ∧ w'.cell? ⟨A, 2, none⟩ = some (.int .i64 x) ∧ w'.cell? ⟨A, 5, none⟩ = some (.int .u8 by_))
    (first
      | with_reducible exact fA
      | with_reducible exact g7
      | with_reducible exact g8)
    (first | (go_at_call 22; refine ps_turn s6 ?_; rw [HO.out]; rintro w7 N' s7 hN; have HN := hid hN; clear hN; have g7 := And.intro (lg43 (St.pick 1 s7)) (And.intro (sg43 (M := M') (St.pick 4 s7)) (And.intro (boxV (St.pick 5 s7)).2.1 (And.intro (boxV (St.pick 5 s7)).2.2.1 ((boxV (St.pick 5 s7)).2.2.2.2.2.1)))); have s8 := set43 (M := M') (St.pick 4 s7); have g8 := And.intro (lg43 (St.pick 2 s8)) (And.intro (sg43 (M := M') s8) (And.intro (boxV (St.pick 5 s8)).2.1 (And.intro (boxV (St.pick 5 s8)).2.2.1 ((boxV (St.pick 5 s8)).2.2.2.2.2.1))))))
  all_goals
    go_wp2
    have hL := run_loadA agg43 (rnC_len _) s8.rowAll
    exact bodyPost_ret (v := .tuple #[.agg (rnC M').toArray, .bool true]) (by simp [results, Try.results16, asAddr, hL]) rfl (HK.out _ _ _ _ _ ((s8.perm [0, 1, 3, 3]).dropN 4) (HF.out _ HN.out))

set_option maxRecDepth 100000 in
set_option maxHeartbeats 4000000 in
theorem do5 {kd i x y by_ : Int} {a : Option Addr} {m c : Nat} {L : List Int} {cut : Bool} (st : St W w (NetA b N :: OwnS 4 M.a M.n M.c (pcells qs) :: sepL (E.map PV.bytes) :: R)) (h : PS k N M qs E) (hk : k ≤ 4000) (k0 : kd ≠ 0) (k1 : kd ≠ 1) (k2 : kd ≠ 2) (k3 : kd ≠ 3) (k4 : kd ≠ 4)
    (K : ∀ w' N' M' qs' E', St W w' (NetA b N' :: OwnS 4 M'.a M'.n M'.c (pcells qs') :: sepL (E'.map PV.bytes) :: R) → PS (k + 1) N' M' qs' E' → post (.returned (.tuple #[.agg (rnC M').toArray, .bool true])) w') :
    Calls Try.prog 16 #[.pointer (some ⟨b, 0, none⟩), .agg (rnC M).toArray, .agg #[.int .i64 kd, .int .i64 i, .int .i64 x, .int .i64 y, .slice a m c, .int .u8 by_, .bool cut]] w post := by
  have HK := hid K; clear K
  have HP := hid h; clear h
  obtain ⟨e, he⟩ : ∃ e, cutC' N x y = e := ⟨_, rfl⟩
  have HO := hid he; clear he
  go_enter Try.func16, Try.ntmps16
  go_wp2_with (first
    | (refine wpl_boxA (vs := rnC M) rfl (.tmp 1) rfl rfl st ?_; rintro T w0 s0)
    | (refine wpl_boxA (vs := [.int .i64 kd, .int .i64 i, .int .i64 x, .int .i64 y, .slice a m c, .int .u8 by_, .bool cut]) rfl (.tmp 2) rfl rfl s0 ?_; rintro A w1 s1)
    | (refine wpl_allocA rfl rfl zero43 s1 ?_; rintro G w2 s2; obtain ⟨h0, h1, h2, h3, h4, h5, h6⟩ := boxV (St.pick 1 s2))
    | (refine wpl_loadA (vs := rnC M) rfl (.tmp 4) (by rfl) agg43 (by rfl) (rnC_len _) (St.pick 2 s2).rowAll ?_)
    | (go_at_call 35; refine rs_cut (St.perm [4, 4] s2) HP.out ?_; rw [HO.out]; rintro w3 M' qs' E' s3 hF; have HF := hid hF; clear hF)
    | (refine wpl_allocA rfl rfl zero43 s3 ?_; rintro C w4 s4)
    | (refine wpl_storeA (vs := rnC M') rfl (.tmp 23) (.tmp 151) (by rfl) agg43 (by rfl) (by rfl) (rnC_len _) (rnC_one _) s4 (rnC_len _) ?_; rintro w5 s5))
  have s6 := (St.pick 6 s5).drew
  have fA := And.intro (lg43 (St.pick 1 s6)) (And.intro (sg43 (M := M') (St.pick 4 s6)) (And.intro (boxV (St.pick 5 s6)).2.2.1 (And.intro (boxV (St.pick 5 s6)).2.2.2.1 ((boxV (St.pick 5 s6)).2.2.2.2.2.2))))
  go_region_held3 (fun w' => (loadG 43 (.pointer (some ⟨C, 0, none⟩))).run Try.prog w' = .ok (.agg (rnC M').toArray) w' ∧ (storeG 43 (.pointer (some ⟨G, 0, none⟩)) (.agg (rnC M').toArray)).run Try.prog w' = .ok () (w'.setCells G 0 (rnC M')) ∧ w'.cell? ⟨A, 2, none⟩ = some (.int .i64 x) ∧ w'.cell? ⟨A, 3, none⟩ = some (.int .i64 y) ∧ w'.cell? ⟨A, 6, none⟩ = some (.bool cut))
    (first
      | with_reducible exact fA
      | with_reducible exact g7
      | with_reducible exact g8)
    (first | (go_at_call 23; refine ps_cut s6 ?_; rw [HO.out]; rintro w7 N' s7 hN; have HN := hid hN; clear hN; have g7 := And.intro (lg43 (St.pick 1 s7)) (And.intro (sg43 (M := M') (St.pick 4 s7)) (And.intro (boxV (St.pick 5 s7)).2.2.1 (And.intro (boxV (St.pick 5 s7)).2.2.2.1 ((boxV (St.pick 5 s7)).2.2.2.2.2.2)))); have s8 := set43 (M := M') (St.pick 4 s7); have g8 := And.intro (lg43 (St.pick 2 s8)) (And.intro (sg43 (M := M') s8) (And.intro (boxV (St.pick 5 s8)).2.2.1 (And.intro (boxV (St.pick 5 s8)).2.2.2.1 ((boxV (St.pick 5 s8)).2.2.2.2.2.2))))))
  all_goals
    go_wp2
    have hL := run_loadA agg43 (rnC_len _) s8.rowAll
    exact bodyPost_ret (v := .tuple #[.agg (rnC M').toArray, .bool true]) (by simp [results, Try.results16, asAddr, hL]) rfl (HK.out _ _ _ _ _ ((s8.perm [0, 1, 3, 3]).dropN 4) (HF.out _ HN.out))

set_option maxRecDepth 100000 in
set_option maxHeartbeats 4000000 in
theorem do1 {i x y by_ : Int} {a : Option Addr} {m c : Nat} {L : List Int} {cut : Bool} (st : St W w (NetA b N :: OwnS 4 M.a M.n M.c (pcells qs) :: sepL (E.map PV.bytes) :: R)) (h : PS k N M qs E) (hk : k ≤ 4000) 
    (K : ∀ w' N' M' qs' E', St W w' (NetA b N' :: OwnS 4 M'.a M'.n M'.c (pcells qs') :: sepL (E'.map PV.bytes) :: R) → PS (k + 1) N' M' qs' E' → DropN N i N' → post (.returned (.tuple #[.agg (rnC M').toArray, .bool true])) w') :
    Calls Try.prog 16 #[.pointer (some ⟨b, 0, none⟩), .agg (rnC M).toArray, .agg #[.int .i64 1, .int .i64 i, .int .i64 x, .int .i64 y, .slice a m c, .int .u8 by_, .bool cut]] w post := by
  have HK := hid K; clear K
  have HP := hid h; clear h
  obtain ⟨⟨to, bs, e⟩, ho⟩ : ∃ o, takeO N i = o := ⟨_, rfl⟩
  have HO := hid ho; clear ho
  go_enter Try.func16, Try.ntmps16
  go_wp2_with (first
    | (refine wpl_boxA (vs := rnC M) rfl (.tmp 1) rfl rfl st ?_; rintro T w0 s0)
    | (refine wpl_boxA (vs := [.int .i64 1, .int .i64 i, .int .i64 x, .int .i64 y, .slice a m c, .int .u8 by_, .bool cut]) rfl (.tmp 2) rfl rfl s0 ?_; rintro A w1 s1)
    | (refine wpl_allocA rfl rfl zero43 s1 ?_; rintro G w2 s2; obtain ⟨h0, h1, h2, h3, h4, h5, h6⟩ := boxV (St.pick 1 s2))
    | (refine wpl_loadA (vs := rnC M) rfl (.tmp 4) (by rfl) agg43 (by rfl) (rnC_len _) (St.pick 2 s2).rowAll ?_)
    | (go_at_call 31; refine rs_take (St.perm [4, 4] s2) HP.out hk HO.out ?_; rintro w3 M' qs' E' ra rn rc s3 hF hr; have HF := hid hF; have HR := hid hr; clear hF hr)
    | (refine wpl_allocA rfl rfl zero43 s3 ?_; rintro C w4 s4)
    | (refine wpl_storeA (vs := rnC M') rfl (.tmp 10) (.tmp 58) (by rfl) agg43 (by rfl) (by rfl) (rnC_len _) (rnC_one _) s4 (rnC_len _) ?_; rintro w5 s5; obtain ⟨j0, j1, j2, j3, j4, j5, j6⟩ := boxV (St.pick 4 s5))
    | (go_at_call 11; refine ps_take (St.pick 6 s5) HP.out hk HO.out ?_; rintro w7 N' B pa pn pc s7 hN hB; have HN := hid hN; have t1 := run_str (hB _ _ (St.pick 1 s7)); have t2 := run_str (HR.out _ _ (St.pick 4 s7)); clear hN hB)
    | (refine wpl_loadA (vs := rnC M') rfl (.tmp 10) (by rfl) agg43 (by rfl) (rnC_len _) (St.pick 2 s7).rowAll ?_)
    | (refine wpl_storeA (vs := rnC M') rfl (.tmp 6) (.tmp 70) (by rfl) agg43 (by rfl) (by rfl) (rnC_len _) (rnC_one _) (St.pick 5 s7) (rnC_len _) ?_; rintro w8 s8))
  have hL := run_loadA agg43 (rnC_len _) s8.rowAll
  exact bodyPost_ret (v := .tuple #[.agg (rnC M').toArray, .bool true]) (by simp [results, Try.results16, asAddr, hL]) rfl (HK.out _ _ _ _ _ ((s8.perm [0, 1, 1, 3, 3]).dropN 5) (HF.out _ HN.out) HN.out)

end

end Go.Proofs.Ytnibgchgcggfbab
