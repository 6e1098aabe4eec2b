/- RepsG: several texts, joined. The replica: wake. Printed by mkRepG.py. -/
import Derived.Test.YtojfjbbggpfijaaGreatDoorRepsD
import Derived.Deep.RegionLaw
namespace Go.Proofs.YtojfjbbggpfijaaGreatDoor
open Go.RowKit Go.Qd RepV

section
attribute [local go_sem ↓] execOp_ldAny
variable {W w : World} {R : List HP} {post : Ending → World → Prop} {A : RAd} {r : RepV}

set_option maxRecDepth 100000 in
set_option maxHeartbeats 4000000 in
theorem wake_cnt {k : ByteArray} (h : RepOK r) (hc : 4294967295 ≤ r.cnt) (st : St W w (RepA A r :: R))
    (K : ∀ w', St W w' (RepA A r :: R) → post (.returned (.tuple #[.int .i64 0, .agg EnV.zero.cells.toArray, .int .i64 8])) w') :
    Calls Tryz.prog 142 #[.pointer (some ⟨A.p, 0, none⟩), .string k] w post := by
  have HK := hid K; clear K
  have HH := hid h
  obtain ⟨b, hb⟩ : ∃ b, thas r.gr k = b := ⟨_, rfl⟩
  have HB := hid hb
  clear hb
  obtain ⟨g, hg⟩ : ∃ g, tget r.gr k = g := ⟨_, rfl⟩
  have HE := hid hg
  have HC := hid hc
  clear hg hc
  clear h
  go_enter Tryz.func142, Tryz.ntmps142
  go_wp2_with (first
    | (refine wpl_allocA rfl rfl zero_en st ?_; rintro V w1 s1; have s2 : St W w1 (RepA A r :: row V 0 EnV.zero.cells :: R) := St.pick 1 s1; have l10 := (repLd s2).2.2.2.2.1; have lg := (graLd (St.pick 5 (RepA.open.1 s2))).1)
    | (go_at_call 44; refine getE_c HH.out.gr HH.out.grL (St.pick 6 (RepA.open.1 s2)) ?_; rintro w3 s3; rw [HB.out, HE.out]; have s4 : St W w3 (RepA A r :: row V 0 EnV.zero.cells :: R) := RepA.open.2 (s3.perm [1, 1, 1, 1, 1, 1]))
    | (refine wpl_allocA rfl rfl zero_en s4 ?_; rintro G w5 s5)
    | (refine wpl_storeA (vs := g.cells) rfl (.tmp 7) (.tmp 22) (by rfl) agg_en (by rfl) (by rfl) rfl (env_one _) s5 rfl ?_; rintro w6 s6; have l5 := (repLd (St.pick 1 s6)).1)
    | (go_at_call 97; refine next_no HC.out (St.pick 1 (RepA.open.1 (St.pick 1 s6))) ?_; rintro w7 s7; have s8 : St W w7 (RepA A r :: row G 0 g.cells :: row V 0 EnV.zero.cells :: R) := RepA.open.2 (s7.perm [1]))
    | (refine wpl_allocA rfl rfl zero_st s8 ?_; rintro N w9 s9)
    | (refine wpl_storeA (vs := [.int .i64 0, .int .i64 0]) rfl (.tmp 9) (.tmp 30) (by rfl) agg_st (by rfl) (by rfl) rfl (st_one _ _) s9 rfl ?_; rintro wa sa)
    | (refine wpl_build rfl rfl (v := .agg EnV.zero.cells.toArray) (by kernel_rfl) ?_)
    | (refine wpl_storeA (vs := EnV.zero.cells) rfl (.tmp 5) (.tmp 34) (by rfl) agg_en (by rfl) (by rfl) rfl (env_one _) (St.pick 3 sa) rfl ?_; rintro wz sz))
  have hL := run_loadA agg_en (vs := EnV.zero.cells) rfl sz.rowAll
  exact bodyPost_ret (v := .tuple #[.int .i64 0, .agg EnV.zero.cells.toArray, .int .i64 8]) (by simp [results, Tryz.results142, asAddr, hL]) rfl (HK.out _ ((sz.perm [0, 0, 1]).dropN 3))

set_option maxRecDepth 100000 in
set_option maxHeartbeats 4000000 in
theorem wake_bad {k : ByteArray} (h : RepOK r) (hn : r.cnt < 4294967295) (hw : ¬ wakeC (tget r.gr k) (r.cnt + 1) r.site = 0) (st : St W w (RepA A r :: R))
    (K : ∀ w', St W w' (RepA A { r with cnt := r.cnt + 1 } :: R) → post (.returned (.tuple #[.int .i64 0, .agg EnV.zero.cells.toArray, .int .i64 (wakeC (tget r.gr k) (r.cnt + 1) r.site)])) w') :
    Calls Tryz.prog 142 #[.pointer (some ⟨A.p, 0, none⟩), .string k] w post := by
  have HK := hid K; clear K
  have HH := hid h
  obtain ⟨b, hb⟩ : ∃ b, thas r.gr k = b := ⟨_, rfl⟩
  have HB := hid hb
  clear hb
  obtain ⟨g, hg⟩ : ∃ g, tget r.gr k = g := ⟨_, rfl⟩
  have HE := hid hg
  have HN : Hid (r.cnt < 4294967295) := hid hn
  have HN0 : Hid (0 ≤ r.cnt) := hid h.cnt
  obtain ⟨q, hq⟩ : ∃ q : RepV, q = { r with cnt := r.cnt + 1 } := ⟨_, rfl⟩
  have hqo : RepOK q := by rw [hq]; exact h.withC (by have := h.cnt; omega)
  have HQ := hid hq
  have HQO := hid hqo
  obtain ⟨n, hnn⟩ : ∃ n, r.cnt + 1 = n := ⟨_, rfl⟩
  have HNN := hid hnn
  rw [hg, hnn] at hw
  obtain ⟨c, hcc⟩ : ∃ c, wakeC g n r.site = c := ⟨_, rfl⟩
  have HC := hid hcc
  obtain ⟨f, hff⟩ : ∃ f, (if c = 0 then wakeE g n r.site else EnV.zero) = f := ⟨_, rfl⟩
  have HF : Hid ((if wakeC g n r.site = 0 then wakeE g n r.site else EnV.zero) = f) := hid (by rw [hcc]; exact hff)
  have h1 : (c == 0) = false := by rw [← hcc]; simp [hw]
  have h2 : (c != 0) = true := by rw [← hcc]; simp [hw]
  have HK2 : Hid (∀ w', St W w' (RepA A q :: R) → post (.returned (.tuple #[.int .i64 0, .agg EnV.zero.cells.toArray, .int .i64 c])) w') := hid (by rw [hq, ← hcc, ← hnn, ← hg]; exact HK.out)
  clear hg hq hqo hnn hn hcc hff hw HK
  clear h
  go_enter Tryz.func142, Tryz.ntmps142
  go_wp2_with (first
    | (refine wpl_allocA rfl rfl zero_en st ?_; rintro V w1 s1; have s2 : St W w1 (RepA A r :: row V 0 EnV.zero.cells :: R) := St.pick 1 s1; have l10 := (repLd s2).2.2.2.2.1; have lg := (graLd (St.pick 5 (RepA.open.1 s2))).1)
    | (go_at_call 44; refine getE_c HH.out.gr HH.out.grL (St.pick 6 (RepA.open.1 s2)) ?_; rintro w3 s3; rw [HB.out, HE.out]; have s4 : St W w3 (RepA A r :: row V 0 EnV.zero.cells :: R) := RepA.open.2 (s3.perm [1, 1, 1, 1, 1, 1]))
    | (refine wpl_allocA rfl rfl zero_en s4 ?_; rintro G w5 s5)
    | (refine wpl_storeA (vs := g.cells) rfl (.tmp 7) (.tmp 22) (by rfl) agg_en (by rfl) (by rfl) rfl (env_one _) s5 rfl ?_; rintro w6 s6; have l5 := (repLd (St.pick 1 s6)).1)
    | (go_at_call 97; refine next_c HN.out HN0.out (St.pick 1 (RepA.open.1 (St.pick 1 s6))) ?_; rintro w7 s7; rw [HNN.out]; have s8 : St W w7 (RepA A q :: row G 0 g.cells :: row V 0 EnV.zero.cells :: R) := (by rw [HQ.out]; exact RepA.open.2 (s7.perm [1])))
    | (refine wpl_allocA rfl rfl zero_st s8 ?_; rintro N w9 s9)
    | (refine wpl_storeA (vs := [.int .i64 n, .int .i64 r.site]) rfl (.tmp 9) (.tmp 30) (by rfl) agg_st (by rfl) (by rfl) rfl (st_one _ _) s9 rfl ?_; rintro wa sa; have lN := run_loadG agg_st (vs := [.int .i64 n, .int .i64 r.site]) rfl sa.rowAll; have lG := run_loadG agg_en (vs := g.cells) rfl (St.pick 2 sa).rowAll)
    | (go_at_call 175; refine ewake_c sa ?_; rintro wb sb; rw [HF.out, HC.out])
    | (refine wpl_allocA rfl rfl zero_en sb ?_; rintro M wc sc)
    | (refine wpl_storeA (vs := f.cells) rfl (.tmp 11) (.tmp 40) (by rfl) agg_en (by rfl) (by rfl) rfl (env_one _) sc rfl ?_; rintro wd sd; have lM := run_loadG agg_en (vs := f.cells) rfl sd.rowAll; have s1d : St W wd (RepA A q :: row M 0 f.cells :: row N 0 [.int .i64 n, .int .i64 r.site] :: row G 0 g.cells :: row V 0 EnV.zero.cells :: R) := St.pick 2 sd)
    | (refine wpl_build rfl rfl (v := .agg EnV.zero.cells.toArray) (by kernel_rfl) ?_)
    | (refine wpl_storeA (vs := EnV.zero.cells) rfl (.tmp 5) (.tmp 49) (by rfl) agg_en (by rfl) (by rfl) rfl (env_one _) (St.pick 4 s1d) rfl ?_; rintro wz sz))
  have hL := run_loadA agg_en (vs := EnV.zero.cells) rfl sz.rowAll
  exact bodyPost_ret (v := .tuple #[.int .i64 0, .agg EnV.zero.cells.toArray, .int .i64 c]) (by simp [results, Tryz.results142, asAddr, hL]) rfl (HK2.out _ ((sz.perm [0, 1, 1, 1]).dropN 4))

set_option maxRecDepth 100000 in
set_option maxHeartbeats 4000000 in
theorem wake_set {k : ByteArray} (h : RepOK r) (hn : r.cnt < 4294967295) (hw : wakeC (tget r.gr k) (r.cnt + 1) r.site = 0) (hs : ¬ { r with cnt := r.cnt + 1 }.setW (wakeE (tget r.gr k) (r.cnt + 1) r.site) = 0) (st : St W w (RepA A r :: R))
    (K : ∀ w', St W w' (RepA A ({ r with cnt := r.cnt + 1 }.set (wakeE (tget r.gr k) (r.cnt + 1) r.site)) :: R) → post (.returned (.tuple #[.int .i64 0, .agg EnV.zero.cells.toArray, .int .i64 ({ r with cnt := r.cnt + 1 }.setW (wakeE (tget r.gr k) (r.cnt + 1) r.site))])) w') :
    Calls Tryz.prog 142 #[.pointer (some ⟨A.p, 0, none⟩), .string k] w post := by
  have HK := hid K; clear K
  have HH := hid h
  obtain ⟨b, hb⟩ : ∃ b, thas r.gr k = b := ⟨_, rfl⟩
  have HB := hid hb
  clear hb
  obtain ⟨g, hg⟩ : ∃ g, tget r.gr k = g := ⟨_, rfl⟩
  have HE := hid hg
  have HN : Hid (r.cnt < 4294967295) := hid hn
  have HN0 : Hid (0 ≤ r.cnt) := hid h.cnt
  obtain ⟨q, hq⟩ : ∃ q : RepV, q = { r with cnt := r.cnt + 1 } := ⟨_, rfl⟩
  have hqo : RepOK q := by rw [hq]; exact h.withC (by have := h.cnt; omega)
  have HQ := hid hq
  have HQO := hid hqo
  obtain ⟨n, hnn⟩ : ∃ n, r.cnt + 1 = n := ⟨_, rfl⟩
  have HNN := hid hnn
  rw [hg, hnn] at hw
  have HC := hid hw
  obtain ⟨f, hff⟩ : ∃ f, wakeE g n r.site = f := ⟨_, rfl⟩
  have HF : Hid ((if wakeC g n r.site = 0 then wakeE g n r.site else EnV.zero) = f) := hid (by rw [if_pos hw]; exact hff)
  obtain ⟨z, hz⟩ : ∃ z, q.setW f = z := ⟨_, rfl⟩
  have HZ := hid hz
  rw [← hq, hg, hnn, hff, hz] at hs
  have h2 : (z != 0) = true := by simp [hs]
  have HK2 : Hid (∀ w', St W w' (RepA A (q.set f) :: R) → post (.returned (.tuple #[.int .i64 0, .agg EnV.zero.cells.toArray, .int .i64 z])) w') := hid (by rw [← hz, ← hff, ← hnn, ← hg]; have := HK.out; rw [← hq] at this; exact this)
  clear hg hq hqo hnn hn hff hw hz hs HK
  clear h
  go_enter Tryz.func142, Tryz.ntmps142
  go_wp2_with (first
    | (refine wpl_allocA rfl rfl zero_en st ?_; rintro V w1 s1; have s2 : St W w1 (RepA A r :: row V 0 EnV.zero.cells :: R) := St.pick 1 s1; have l10 := (repLd s2).2.2.2.2.1; have lg := (graLd (St.pick 5 (RepA.open.1 s2))).1)
    | (go_at_call 44; refine getE_c HH.out.gr HH.out.grL (St.pick 6 (RepA.open.1 s2)) ?_; rintro w3 s3; rw [HB.out, HE.out]; have s4 : St W w3 (RepA A r :: row V 0 EnV.zero.cells :: R) := RepA.open.2 (s3.perm [1, 1, 1, 1, 1, 1]))
    | (refine wpl_allocA rfl rfl zero_en s4 ?_; rintro G w5 s5)
    | (refine wpl_storeA (vs := g.cells) rfl (.tmp 7) (.tmp 22) (by rfl) agg_en (by rfl) (by rfl) rfl (env_one _) s5 rfl ?_; rintro w6 s6; have l5 := (repLd (St.pick 1 s6)).1)
    | (go_at_call 97; refine next_c HN.out HN0.out (St.pick 1 (RepA.open.1 (St.pick 1 s6))) ?_; rintro w7 s7; rw [HNN.out]; have s8 : St W w7 (RepA A q :: row G 0 g.cells :: row V 0 EnV.zero.cells :: R) := (by rw [HQ.out]; exact RepA.open.2 (s7.perm [1])))
    | (refine wpl_allocA rfl rfl zero_st s8 ?_; rintro N w9 s9)
    | (refine wpl_storeA (vs := [.int .i64 n, .int .i64 r.site]) rfl (.tmp 9) (.tmp 30) (by rfl) agg_st (by rfl) (by rfl) rfl (st_one _ _) s9 rfl ?_; rintro wa sa; have lN := run_loadG agg_st (vs := [.int .i64 n, .int .i64 r.site]) rfl sa.rowAll; have lG := run_loadG agg_en (vs := g.cells) rfl (St.pick 2 sa).rowAll)
    | (go_at_call 175; refine ewake_c sa ?_; rintro wb sb; rw [HF.out, HC.out])
    | (refine wpl_allocA rfl rfl zero_en sb ?_; rintro M wc sc)
    | (refine wpl_storeA (vs := f.cells) rfl (.tmp 11) (.tmp 40) (by rfl) agg_en (by rfl) (by rfl) rfl (env_one _) sc rfl ?_; rintro wd sd; have lM := run_loadG agg_en (vs := f.cells) rfl sd.rowAll; have s1d : St W wd (RepA A q :: row M 0 f.cells :: row N 0 [.int .i64 n, .int .i64 r.site] :: row G 0 g.cells :: row V 0 EnV.zero.cells :: R) := St.pick 2 sd)
    | (go_at_call 98; refine set_c HQO.out s1d ?_; rintro we se; rw [HZ.out])
    | (refine wpl_build rfl rfl (v := .agg EnV.zero.cells.toArray) (by kernel_rfl) ?_)
    | (refine wpl_storeA (vs := EnV.zero.cells) rfl (.tmp 5) (.tmp 49) (by rfl) agg_en (by rfl) (by rfl) rfl (env_one _) (St.pick 4 se) rfl ?_; rintro wz sz))
  have hL := run_loadA agg_en (vs := EnV.zero.cells) rfl sz.rowAll
  exact bodyPost_ret (v := .tuple #[.int .i64 0, .agg EnV.zero.cells.toArray, .int .i64 z]) (by simp [results, Tryz.results142, asAddr, hL]) rfl (HK2.out _ ((sz.perm [0, 1, 1, 1]).dropN 4))

attribute [local go_sem ↓] execOp_stE in
set_option maxRecDepth 100000 in
set_option maxHeartbeats 4000000 in
theorem wake_ok {k : ByteArray} (h : RepOK r) (hn : r.cnt < 4294967295) (hw : wakeC (tget r.gr k) (r.cnt + 1) r.site = 0) (hs : { r with cnt := r.cnt + 1 }.setW (wakeE (tget r.gr k) (r.cnt + 1) r.site) = 0) (st : St W w (RepA A r :: R))
    (K : ∀ w', St W w' (RepA A ({ r with cnt := r.cnt + 1 }.set (wakeE (tget r.gr k) (r.cnt + 1) r.site)) :: R) → post (.returned (.tuple #[.int .i64 2, .agg (wakeE (tget r.gr k) (r.cnt + 1) r.site).cells.toArray, .int .i64 0])) w') :
    Calls Tryz.prog 142 #[.pointer (some ⟨A.p, 0, none⟩), .string k] w post := by
  have HK := hid K; clear K
  have HH := hid h
  obtain ⟨b, hb⟩ : ∃ b, thas r.gr k = b := ⟨_, rfl⟩
  have HB := hid hb
  clear hb
  obtain ⟨g, hg⟩ : ∃ g, tget r.gr k = g := ⟨_, rfl⟩
  have HE := hid hg
  have HN : Hid (r.cnt < 4294967295) := hid hn
  have HN0 : Hid (0 ≤ r.cnt) := hid h.cnt
  obtain ⟨q, hq⟩ : ∃ q : RepV, q = { r with cnt := r.cnt + 1 } := ⟨_, rfl⟩
  have hqo : RepOK q := by rw [hq]; exact h.withC (by have := h.cnt; omega)
  have HQ := hid hq
  have HQO := hid hqo
  obtain ⟨n, hnn⟩ : ∃ n, r.cnt + 1 = n := ⟨_, rfl⟩
  have HNN := hid hnn
  rw [hg, hnn] at hw
  have HC := hid hw
  obtain ⟨f, hff⟩ : ∃ f, wakeE g n r.site = f := ⟨_, rfl⟩
  have HF : Hid ((if wakeC g n r.site = 0 then wakeE g n r.site else EnV.zero) = f) := hid (by rw [if_pos hw]; exact hff)
  rw [← hq, hg, hnn, hff] at hs
  have HZ := hid hs
  have HK2 : Hid (∀ w', St W w' (RepA A (q.set f) :: R) → post (.returned (.tuple #[.int .i64 2, .agg f.cells.toArray, .int .i64 0])) w') := hid (by rw [← hff, ← hnn, ← hg]; have := HK.out; rw [← hq] at this; exact this)
  clear hg hq hqo hnn hn hff hw hs HK
  clear h
  go_enter Tryz.func142, Tryz.ntmps142
  go_wp2_with (first
    | (refine wpl_allocA rfl rfl zero_en st ?_; rintro V w1 s1; have s2 : St W w1 (RepA A r :: row V 0 EnV.zero.cells :: R) := St.pick 1 s1; have l10 := (repLd s2).2.2.2.2.1; have lg := (graLd (St.pick 5 (RepA.open.1 s2))).1)
    | (go_at_call 44; refine getE_c HH.out.gr HH.out.grL (St.pick 6 (RepA.open.1 s2)) ?_; rintro w3 s3; rw [HB.out, HE.out]; have s4 : St W w3 (RepA A r :: row V 0 EnV.zero.cells :: R) := RepA.open.2 (s3.perm [1, 1, 1, 1, 1, 1]))
    | (refine wpl_allocA rfl rfl zero_en s4 ?_; rintro G w5 s5)
    | (refine wpl_storeA (vs := g.cells) rfl (.tmp 7) (.tmp 22) (by rfl) agg_en (by rfl) (by rfl) rfl (env_one _) s5 rfl ?_; rintro w6 s6; have l5 := (repLd (St.pick 1 s6)).1)
    | (go_at_call 97; refine next_c HN.out HN0.out (St.pick 1 (RepA.open.1 (St.pick 1 s6))) ?_; rintro w7 s7; rw [HNN.out]; have s8 : St W w7 (RepA A q :: row G 0 g.cells :: row V 0 EnV.zero.cells :: R) := (by rw [HQ.out]; exact RepA.open.2 (s7.perm [1])))
    | (refine wpl_allocA rfl rfl zero_st s8 ?_; rintro N w9 s9)
    | (refine wpl_storeA (vs := [.int .i64 n, .int .i64 r.site]) rfl (.tmp 9) (.tmp 30) (by rfl) agg_st (by rfl) (by rfl) rfl (st_one _ _) s9 rfl ?_; rintro wa sa; have lN := run_loadG agg_st (vs := [.int .i64 n, .int .i64 r.site]) rfl sa.rowAll; have lG := run_loadG agg_en (vs := g.cells) rfl (St.pick 2 sa).rowAll)
    | (go_at_call 175; refine ewake_c sa ?_; rintro wb sb; rw [HF.out, HC.out])
    | (refine wpl_allocA rfl rfl zero_en sb ?_; rintro M wc sc)
    | (refine wpl_storeA (vs := f.cells) rfl (.tmp 11) (.tmp 40) (by rfl) agg_en (by rfl) (by rfl) rfl (env_one _) sc rfl ?_; rintro wd sd; have lM := run_loadG agg_en (vs := f.cells) rfl sd.rowAll; have s1d : St W wd (RepA A q :: row M 0 f.cells :: row N 0 [.int .i64 n, .int .i64 r.site] :: row G 0 g.cells :: row V 0 EnV.zero.cells :: R) := St.pick 2 sd)
    | (go_at_call 98; refine set_c HQO.out s1d ?_; rintro we se; rw [HZ.out]))
  have sy := se.drew
  have gM := run_loadG agg_en (vs := f.cells) rfl (St.pick 1 sy).rowAll
  have rS := run_storeG agg_en (b := V) (o := 0) ((St.pick 4 sy).roomG rfl) (⟨rfl, env_one f⟩ : oneG f.cells 9)
  have sz := (St.pick 4 sy).setAll (vs := f.cells) rfl
  have hL := run_loadA agg_en (vs := f.cells) rfl sz.rowAll
  go_region_law (fail)
  all_goals
    go_wp2_with fail
    exact bodyPost_ret (v := .tuple #[.int .i64 2, .agg f.cells.toArray, .int .i64 0]) (by simp [results, Tryz.results142, asAddr, hL, Act.put]) rfl (HK2.out _ ((sz.perm [0, 1, 1, 1]).dropN 4))

/-- A grave is woken. -/
theorem wake_c {k : ByteArray} (h : RepOK r) (st : St W w (RepA A r :: R))
    (K : ∀ w', St W w' (RepA A (r.woken k) :: R) → post (.returned (.tuple #[.int .i64 (if r.wokenW k = 0 then 2 else 0), .agg (if r.wokenW k = 0 then wakeE (tget r.gr k) (r.cnt + 1) r.site else EnV.zero).cells.toArray, .int .i64 (r.wokenW k)])) w') :
    Calls Tryz.prog 142 #[.pointer (some ⟨A.p, 0, none⟩), .string k] w post := by
  unfold RepV.woken RepV.wokenW at K
  by_cases hc : 4294967295 ≤ r.cnt
  · simp only [if_pos hc] at K
    exact wake_cnt h hc st K
  · simp only [if_neg hc] at K
    by_cases hw : wakeC (tget r.gr k) (r.cnt + 1) r.site = 0
    · have hw' : ¬ wakeC (tget r.gr k) (r.cnt + 1) r.site ≠ 0 := fun x => x hw
      simp only [if_neg hw'] at K
      by_cases hs : { r with cnt := r.cnt + 1 }.setW (wakeE (tget r.gr k) (r.cnt + 1) r.site) = 0
      · simp only [if_pos hs] at K
        exact wake_ok h (by omega) hw hs st (by intro w' s; have := K w' s; rwa [hs] at this)
      · simp only [if_neg hs] at K
        exact wake_set h (by omega) hw hs st K
    · have hw' : wakeC (tget r.gr k) (r.cnt + 1) r.site ≠ 0 := hw
      simp only [if_pos hw', if_neg hw] at K
      exact wake_bad h (by omega) hw st K
end
end Go.Proofs.YtojfjbbggpfijaaGreatDoor

/- The replica: what set, a tick of the clock keep; the closure of Put. -/
namespace Go.Proofs.YtojfjbbggpfijaaGreatDoor
open Go.RowKit Go.Qd RepV

theorem RepOK.set {r : RepV} (h : RepOK r) (e : EnV) : RepOK (r.set e) := by
  have h1 : RepOK { r with d := r.d.add (encE e) } := h.withD (h.d.add _)
  have h2 := (h1.wrote e).buried e
  unfold RepV.set
  split
  · exact h
  · split
    · exact h1
    · split
      · rename_i hr
        refine h2.placed ?_
        rw [← hr]
        unfold RepV.buried RepV.wrote
        split <;> rfl
      · exact h2
theorem RepOK.see {r : RepV} (h : RepOK r) (c s : Int) : RepOK (r.see c s) := by
  unfold RepV.see
  split
  · rename_i hc
    have := h.cnt
    simp only [Bool.and_eq_true, decide_eq_true_eq] at hc
    exact h.withC (by omega)
  · exact h
theorem RepOK.woken {r : RepV} (h : RepOK r) (k : ByteArray) : RepOK (r.woken k) := by
  have h1 : RepOK { r with cnt := r.cnt + 1 } := h.withC (by have := h.cnt; omega)
  unfold RepV.woken
  split
  · exact h
  · split
    · exact h1
    · exact h1.set _
theorem RepOK.write {r : RepV} (h : RepOK r) (k : ByteArray) (made : Int → Int → EnV) : RepOK (r.write k made) := by
  have h1 : RepOK { r with cnt := r.cnt + 1 } := h.withC (by have := h.cnt; omega)
  unfold RepV.write
  split
  · exact h
  · split
    · exact h
    · split
      · exact h1
      · exact h1.set _

section
variable {W w : World} {R : List HP} {post : Ending → World → Prop}
set_option maxRecDepth 100000 in
set_option maxHeartbeats 2000000 in
theorem put1_c {B D : Nat} {k v : ByteArray} {c s : Int} (st : St W w (row B 0 [.string k] :: row D 0 [.string v] :: R))
    (K : ∀ w', St W w' (row B 0 [.string k] :: row D 0 [.string v] :: R) → post (.returned (.tuple #[.agg (if checkE (putE k v c s) = 0 then putE k v c s else EnV.zero).cells.toArray, .int .i64 (checkE (putE k v c s))])) w') :
    Calls Tryz.prog 49 #[.agg [Value.int .i64 c, .int .i64 s].toArray, .pointer (some ⟨B, 0, none⟩), .pointer (some ⟨D, 0, none⟩)] w post := by
  obtain ⟨f, hf⟩ : ∃ f, (if checkE (putE k v c s) = 0 then putE k v c s else EnV.zero) = f := ⟨_, rfl⟩
  obtain ⟨x, hx⟩ : ∃ x, checkE (putE k v c s) = x := ⟨_, rfl⟩
  rw [hf, hx] at K
  have HF := hid hf; have HX := hid hx
  clear hf hx
  have HK := hid K; clear K
  go_enter Tryz.func49, Tryz.ntmps49
  go_wp2_with (first
    | (refine wpl_boxA (vs := [.int .i64 c, .int .i64 s]) rfl (.tmp 0) rfl rfl st ?_; rintro T w1 s1)
    | (refine wpl_allocA rfl rfl zero_en s1 ?_; rintro U w2 s2; have b0 := boxOne (St.pick 2 s2); have d0 := boxOne (St.pick 3 s2))
    | (refine wpl_loadA (vs := [.int .i64 c, .int .i64 s]) rfl (.tmp 3) (by rfl) agg_st (by rfl) rfl (St.pick 1 s2).rowAll ?_)
    | (go_at_call 47; refine eput_c s2 ?_; rintro w3 s3; rw [HF.out, HX.out])
    | (refine wpl_storeA (vs := f.cells) rfl (.tmp 4) (.tmp 10) (by rfl) agg_en (by rfl) (by rfl) rfl (env_one _) s3 rfl ?_; rintro w4 s4))
  have hL := run_loadA agg_en (vs := f.cells) rfl s4.rowAll
  exact bodyPost_ret (v := .tuple #[.agg f.cells.toArray, .int .i64 x]) (by simp [results, Tryz.results49, asAddr, hL]) rfl (HK.out _ (s4.dropN 2))
end
end Go.Proofs.YtojfjbbggpfijaaGreatDoor
