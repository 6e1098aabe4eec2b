/- Tiks: several texts, joined. Tables of entries: Rank, Scan. -/
import Derived.Test.YtggbeedghblakaaGreatDoorTabsB
import Derived.Test.YtggbeedghblakaaGreatDoorLib
import Derived.Test.YtggbeedghblakaaGreatDoorRepsT
import Derived.Test.YtggbeedghblakaaGreatDoorRngs
import Derived.Test.YtggbeedghblakaaGreatDoorTabX
namespace Go.Proofs.YtggbeedghblakaaGreatDoor
open Go.RowKit Go.Qd

/-- So many pairs from a key on. -/
def scanL (l : List KE) (k : ByteArray) (n : Int) : List KE := (l.drop (rankK kLt Prod.fst l k)).take n.toNat

section
attribute [local go_sem ↓] execOp_ldAny
variable {W w : World} {R : List HP} {post : Ending → World → Prop} {b : Nat} {room : Int} {l : List KE} {k : ByteArray} {ao : Option Addr} {n c : Nat}

set_option maxRecDepth 100000 in
theorem find2_c (hs : TSrt l) (hn : n ≤ 4096) (st : St W w (row b 0 [.int .i64 room, .slice ao n c] :: OwnS 10 ao n c (tabC l) :: R))
    (K : ∀ w', St W w' (row b 0 [.int .i64 room, .slice ao n c] :: OwnS 10 ao n c (tabC l) :: R) → post (.returned (.tuple #[.int .i64 (rankK kLt Prod.fst l k : Nat), .bool (thas l k)])) w') :
    Calls Tryz.prog 127 #[.pointer (some ⟨b, 0, none⟩), .string k] w post := by
  have HK := hid K; clear K
  obtain ⟨h0, h1, _⟩ := rowTwo st
  rw [Nat.zero_add] at h1
  have hr : Rds W (row b 0 [.int .i64 room, .slice ao n c] :: OwnS 10 ao n c (tabC l) :: R) 10 ao n c (tabC l) := fun w' s' => OwnS.rd (St.pick 1 s')
  have HR := hid hr
  have h1' := run_ldP (t := 166) (by kernel_rfl) h1
  clear hr
  go_enter Tryz.func127, Tryz.ntmps127
  go_wp2_with (go_at_call 182; refine bsfE_c HR.out hs hn st ?_; rintro w6 s6)
  exact HK.out _ s6

set_option maxRecDepth 100000 in
theorem rank2_c (hs : TSrt l) (hn : n ≤ 4096) (st : St W w (row b 0 [.int .i64 room, .slice ao n c] :: OwnS 10 ao n c (tabC l) :: R))
    (K : ∀ w', St W w' (row b 0 [.int .i64 room, .slice ao n c] :: OwnS 10 ao n c (tabC l) :: R) → post (.returned (.int .i64 (rankK kLt Prod.fst l k : Nat))) w') :
    Calls Tryz.prog 138 #[.pointer (some ⟨b, 0, none⟩), .string k] w post := by
  have HK := hid K; clear K
  obtain ⟨r, hr⟩ : ∃ r, rankK kLt Prod.fst l k = r := ⟨_, rfl⟩
  have HR := hid hr
  rw [hr] at HK
  clear hr
  go_enter Tryz.func138, Tryz.ntmps138
  go_wp2_with (go_at_call 127; refine find2_c hs hn st ?_; rintro w6 s6; rw [HR.out])
  exact HK.out _ s6

set_option maxRecDepth 100000 in
set_option maxHeartbeats 4000000 in
theorem scanE_c {m : Int} (hs : TSrt l) (hn : l.length ≤ 4096) (st : St W w (TabE b 0 room l :: R))
    (K : ∀ a n' c' w', n' = (scanL l k m).length → St W w' (OwnS 10 a n' c' (tabC (scanL l k m)) :: TabE b 0 room l :: R) → post (.returned (.slice a n' c')) w') :
    Calls Tryz.prog 88 #[.pointer (some ⟨b, 0, none⟩), .string k, .int .i64 m] w post := by
  have HK := hid K; clear K
  obtain ⟨ao, n, c, s⟩ := TabE.open st
  have hl : l.length = n := tabC_ln (OwnS.rd (St.pick 1 s))
  have hle := (OwnS.rd (St.pick 1 s)).le
  have hmax := (OwnS.rd (St.pick 1 s)).max
  obtain ⟨r, hr⟩ : ∃ r, rankK kLt Prod.fst l k = r := ⟨_, rfl⟩
  have hrn : r ≤ n := by rw [← hl, ← hr]; exact rankK_le
  obtain ⟨ax, cx, ht, hsl⟩ := run_slice_from (P := Tryz.prog) Tryz.elem166 ao n c r (n - r) (i := (r : Int)) rfl (by omega)
  obtain ⟨n', hn'⟩ : ∃ n', n - r = n' := ⟨_, rfl⟩
  rw [hn'] at hsl
  obtain ⟨z, hz⟩ : ∃ z : Nat, (if m ≤ 0 then 0 else if (n' : Int) ≤ m then n' else m.toNat) = z := ⟨_, rfl⟩
  have hzn : z ≤ n' := by rw [← hz]; split <;> (try split) <;> omega
  have HSC : Hid (scanL l k m = (l.drop r).take z) := hid (by
    unfold scanL
    rw [hr, ← hz]
    split
    · rw [show m.toNat = 0 by omega]
    · split
      · rw [List.take_of_length_le (by rw [List.length_drop]; omega), List.take_of_length_le (by rw [List.length_drop]; omega)]
      · rfl)
  have HLN : Hid ((scanL l k m).length = z) := hid (by rw [HSC.out, List.length_take, List.length_drop]; omega)
  have HR := hid hr; have HN' := hid hn'
  have hn4 : n ≤ 4096 := by omega
  have HL := hid hl
  have hcx : n' ≤ cx := by have := ht; obtain ⟨_, rfl⟩ := this; omega
  have hs2 := run_slice_to (P := Tryz.prog) Tryz.elem166 ax n' cx z (by omega)
  have HT := hid ht
  have e2 : min (max m 0) (n' : Int) = (z : Int) := by
    rw [← hz, Int.min_def, Int.max_def]
    split <;> split <;> (try split) <;> (try split) <;> omega
  clear hl hr hn'
  go_enter Tryz.func88, Tryz.ntmps88
  go_wp2_with fail
  have hN : Nonempty (Cls fun w' => St W w' (row b 0 [.int .i64 room, .slice ao n c] :: OwnS 10 ao n c (tabC l) :: R)) := Cls.inh s
  have f1 := fun s : Cls (fun w' => St W w' (row b 0 [.int .i64 room, .slice ao n c] :: OwnS 10 ao n c (tabC l) :: R)) => run_ldP (t := 166) (o := 1) (by kernel_rfl) (by have := (rowTwo s.h).2.1; rwa [Nat.zero_add] at this)
  refine wp_region_class (fun w' => St W w' (row b 0 [.int .i64 room, .slice ao n c] :: OwnS 10 ao n c (tabC l) :: R)) (by kernel_rfl) (by kernel_rfl) s.drew ?_
  repeat (go_big_quiet_step ((rename_i s; go_at_call 138; refine rank2_c hs hn4 s.h ?_; rintro w4 s4; rw [HR.out]; exact Cls.end _ s4)))
  clear hN f1
  refine wpQuiet_nil ?_
  rintro ⟨w6, s6⟩
  dsimp only
  have rdx := (OwnS.rd (St.pick 1 s6)).tail (k := r) (n' := n') (by have := HN'.out; omega) HT.out
  have rdz := rdx.short hzn
  have HCL : Hid (((tabC l).drop (r * 10)).take (z * 10) = tabC (scanL l k m)) := hid (by
    rw [HSC.out, tabC_drop (by rw [HL.out]; exact hrn), tabC_take (by rw [List.length_drop, HL.out, HN'.out]; exact hzn)])
  have hzb : z * 104 ≤ 140737488355328 := by have := HN'.out; omega
  clear rdx
  go_wp2_with (first
    | (at_builtin; refine wpl_max rfl _ _ rfl rfl rfl ?_)
    | (at_builtin; refine wpl_min rfl _ _ rfl rfl rfl ?_; rw [e2])
    | (go_at_call 139; refine cloneE_c s6 rdz hzb ?_; rintro a7 c7 w7 s7; rw [HCL.out] at s7))
  exact HK.out _ _ _ _ HLN.out.symm (by have := TabE.close (s7.perm [1, 1]); exact St.pick 1 this)
end
end Go.Proofs.YtggbeedghblakaaGreatDoor

/- The graves' Tick. Printed by mkTikA.py. -/
namespace Go.Proofs.YtggbeedghblakaaGreatDoor
open Go.RowKit Go.Qd RepV

theorem ke2_ld {w : World} {b o n c i : Nat} {l : List KE} (rd : RdS w 9 (some ⟨b, o, none⟩) n c (ke2 l)) (hi : i < l.length) :
    (loadG 39 (.pointer (some ⟨b, o + i * 9, none⟩))).run Tryz.prog w = .ok (.agg l[i].2.cells.toArray) w := by
  have := enC_ld rd (i := i) (by simpa using hi)
  rwa [List.getElem_map] at this
/-- An entry's age is written. -/
theorem age_set {W w : World} {R : List HP} {T : Nat} {e : EnV} (s : St W w (row T 0 e.cells :: R)) (n : Int) :
    w.cell? ⟨T, 8, none⟩ = some (.int .i64 e.age) ∧ w.frozen? ⟨T, 8, none⟩ = false ∧ St W (w.setCell ⟨T, 8, none⟩ (.int .i64 n)) (row T 0 { e with age := n }.cells :: R) := by
  have d8 := s.rowCell (i := 8) (v := .int .i64 e.age) rfl
  have f8 := s.rowFree (i := 8) (by show 8 < 9; decide)
  have s3 : St W _ (row T 0 { e with age := n }.cells :: R) := s.rowSet (i := 8) (by show 8 < 9; decide) (.int .i64 n)
  rw [Nat.zero_add] at d8 f8 s3
  exact ⟨d8, f8, s3⟩

theorem execOp_bslStr (ρ : Operand → Value) (dst : Option Tmp) (a : Operand) (ty : TypeId) (pos : String) (after : Array Edge) (guard : Option (Nat × Bool)) :
    execOp ρ { dst, op := .buildSlice 56 1 #[(0, a)], type := ty, pos, after, guard } = (do pure (.value (← bslG 56 (ρ a)))) := by simp [execOp, bslG]
theorem run_bslStr (x : ByteArray) (w : World) : (bslG 56 (.string x)).run Tryz.prog w = .ok (.slice (some ⟨w.heap.size, 0, none⟩) 1 1) (w.alloc (.cells #[.string x] 9)) := by kernel_rfl

section
attribute [local go_sem ↓] execOp_ldAny execOp_stE execOp_bslStr
attribute [local go_sem] run_bslStr
variable {W w : World} {R : List HP} {post : Ending → World → Prop}

set_option maxRecDepth 100000 in
set_option maxHeartbeats 8000000 in
theorem gtick_c {g gp : Nat} {site t2 : Int} {gr : List KE} (hs : TSrt gr) (hk : ∀ p ∈ gr, p.1 = p.2.key) (hn : gr.length ≤ 4096) (hc : ∀ p ∈ gr, checkE p.2 = 0)
    (st : St W w (row g 0 [ptrV gp, .int .i64 site, .int .i64 t2] :: TabE gp 0 4096 gr :: R))
    (K : ∀ v w', St W w' (row g 0 [ptrV gp, .int .i64 site, .int .i64 t2] :: TabE gp 0 4096 (gr.foldl (gtick1 t2) gr) :: R) → post (.returned v) w') :
    Calls Tryz.prog 93 #[.pointer (some ⟨g, 0, none⟩)] w post := by
  have HK := hid K; clear K
  have HS := hid hs; have HKY := hid hk; have HL := hid hn; have HC := hid hc
  clear hs hk hn hc
  go_enter Tryz.func93, Tryz.ntmps93
  go_wp2_with (go_at_call 96; refine gall_c HL.out st ?_; rintro la n lc w1 hn1 s1; have HN := hid hn1; clear hn1)
  have hn4 : n ≤ 4096 := by rw [HN.out]; exact HL.out
  go_loopw [3, 9] (fun gv ii wr => ∃ (i : Nat) (ga : Option Addr) (gn gc : Nat) (gs : List Value), i ≤ n ∧ ii = .int .i64 i ∧ gv = .slice ga gn gc ∧ Hid (gn ≤ i) ∧
    St W wr (TabE gp 0 4096 ((gr.take i).foldl (gtick1 t2) gr) :: row g 0 [ptrV gp, .int .i64 site, .int .i64 t2] :: OwnS 9 la n lc (ke2 gr) :: OwnS 1 ga gn gc gs :: R)) (fun _ ii _ => n - (intOf ii).toNat)
  case atStart => exact ⟨0, none, 0, 0, [], Nat.zero_le _, rfl, rfl, hid (Nat.le_refl _), ((OwnS.none0 s1).perm [3, 2, 1])⟩
  case round =>
    obtain ⟨i, ga, gn, gc, gs, hi, rfl, rfl, HG, sr⟩ := hrel
    by_cases hlt : i < n
    · have hi2 : (i : Int) < (n : Int) := by omega
      have hiA : i < gr.length := by rw [← HN.out]; exact hlt
      have rd := OwnS.rd (St.pick 2 sr)
      obtain ⟨g3, o3, rfl⟩ := rd.addr (by omega)
      have ci := ke2_ld rd hiA
      obtain ⟨a1, a2, a3, a4⟩ := gtick_at (t2 := t2) HS.out HKY.out hiA
      have hck := checkE_ages (HC.out _ (List.getElem_mem hiA))
      obtain ⟨q, hq⟩ : ∃ q, (gr.take i).foldl (gtick1 t2) gr = q := ⟨_, rfl⟩
      obtain ⟨p, hp⟩ : ∃ p, gr[i] = p := ⟨_, rfl⟩
      rw [hq] at a1 a2 a3 a4 sr
      rw [hp] at ci a2 a4 hck
      obtain ⟨e, he⟩ : ∃ e, p.2 = e := ⟨_, rfl⟩
      rw [he] at ci a2 hck
      have hqn : q.length ≤ 4096 := by have := HL.out; omega
      have HA1 := hid a1; have HA2 := hid a2; have HA4 := hid a4; have HQN := hid hqn
      have hw : IntKind.i64.wrap (e.age + 1) = e.age + 1 := IntWalk.i64_in _ (by omega)
      have HST : Hid ((gr.take (i + 1)).foldl (gtick1 t2) gr = if e.age + 1 < t2 then tput q e.key e.older else tdel q e.key) := hid (by rw [HA4.out]; unfold gtick1; rw [he])
      have HG2 := HG.out
      clear hq hp he a1 a2 a3 a4 hqn rd hiA hck HA4
      go_upto_region 6 with (first
        | (refine wpl_allocA rfl rfl zero_en sr ?_; rintro T w2 s2)
        | (refine wpl_storeA (vs := e.cells) rfl (.tmp 5) (.tmp 12) (by rfl) agg_en (by rfl) (by rfl) rfl (env_one _) s2 rfl ?_; rintro w3 s3; obtain ⟨d8, f8, s4⟩ := age_set s3 (e.age + 1); have l8 := run_ldP (t := 3) (by kernel_rfl) d8))
      obtain ⟨e1, he1⟩ : ∃ e1 : EnV, e1 = { e with age := e.age + 1 } := ⟨_, rfl⟩
      have s5 : St W (w3.setCell ⟨T, 8, none⟩ (.int .i64 (e.age + 1))) (row T 0 e1.cells :: TabE gp 0 4096 q :: row g 0 [ptrV gp, .int .i64 site, .int .i64 t2] :: OwnS 9 (some ⟨g3, o3, none⟩) n lc (ke2 gr) :: OwnS 1 ga gn gc gs :: R) := by rw [he1]; exact s4
      have HE1 : Hid (e1.key = e.key ∧ e1.age = e.age + 1 ∧ e1 = e.older) := hid (by rw [he1]; exact ⟨rfl, rfl, rfl⟩)
      have hag : e1.age = e.age + 1 := HE1.out.2.1
      have hky : e1.key = e.key := HE1.out.1
      clear he1 d8 f8 l8 s4 s3 s2
      obtain ⟨ag, hag2⟩ : ∃ ag, e.age + 1 = ag := ⟨_, rfl⟩
      have HAG := hid hag2
      have HAE : Hid (e1.age = ag) := hid (by rw [hag, hag2])
      have HKE := hid hky
      clear hag hag2 hw hky
      generalize w3.setCell ⟨T, 8, none⟩ (.int .i64 (e.age + 1)) = w5 at s5 ⊢
      cases hb : decide (ag < t2) with
      | true =>
        have hb2 : ag < t2 := of_decide_eq_true hb
        try simp only [Act.put, List.setIfInBounds_toArray, List.set_cons_succ, List.set_cons_zero]
        have hN6 : Nonempty (Cls (fun w' => St W w' (row T 0 e1.cells :: TabE gp 0 4096 q :: row g 0 [ptrV gp, .int .i64 site, .int .i64 t2] :: OwnS 9 (some ⟨g3, o3, none⟩) n lc (ke2 gr) :: OwnS 1 ga gn gc gs :: R))) := Cls.inh s5
        have f8 := fun s : Cls (fun w' => St W w' (row T 0 e1.cells :: TabE gp 0 4096 q :: row g 0 [ptrV gp, .int .i64 site, .int .i64 t2] :: OwnS 9 (some ⟨g3, o3, none⟩) n lc (ke2 gr) :: OwnS 1 ga gn gc gs :: R)) => (HAE.out ▸ (enL s.h).2.2.2.2.2.2.1 : (loadG 3 (.pointer (some ⟨T, 8, none⟩))).run Tryz.prog s.w = .ok (.int .i64 ag) s.w)
        have f2 := fun s : Cls (fun w' => St W w' (row T 0 e1.cells :: TabE gp 0 4096 q :: row g 0 [ptrV gp, .int .i64 site, .int .i64 t2] :: OwnS 9 (some ⟨g3, o3, none⟩) n lc (ke2 gr) :: OwnS 1 ga gn gc gs :: R)) => (graLd (St.pick 2 s.h)).2.2
        refine wp_region_class (fun w' => St W w' (row T 0 e1.cells :: TabE gp 0 4096 q :: row g 0 [ptrV gp, .int .i64 site, .int .i64 t2] :: OwnS 9 (some ⟨g3, o3, none⟩) n lc (ke2 gr) :: OwnS 1 ga gn gc gs :: R)) (by kernel_rfl) (by kernel_rfl) (St.drew s5) ?_
        repeat (go_big_quiet_step (fail))
        clear hN6 f8 f2
        refine wpQuiet_nil ?_
        rintro ⟨w6, s6⟩
        dsimp only
        go_wp2_with fail
        try simp only [Act.put, List.setIfInBounds_toArray, List.set_cons_succ, List.set_cons_zero]
        have hN_s7 : Nonempty (Cls (fun w' => St W w' (row T 0 e1.cells :: TabE gp 0 4096 q :: row g 0 [ptrV gp, .int .i64 site, .int .i64 t2] :: OwnS 9 (some ⟨g3, o3, none⟩) n lc (ke2 gr) :: OwnS 1 ga gn gc gs :: R))) := Cls.inh s6
        have p0_s7 := fun s : Cls (fun w' => St W w' (row T 0 e1.cells :: TabE gp 0 4096 q :: row g 0 [ptrV gp, .int .i64 site, .int .i64 t2] :: OwnS 9 (some ⟨g3, o3, none⟩) n lc (ke2 gr) :: OwnS 1 ga gn gc gs :: R)) => (graLd (St.pick 2 s.h)).1
        have k0_s7 := fun s : Cls (fun w' => St W w' (row T 0 e1.cells :: TabE gp 0 4096 q :: row g 0 [ptrV gp, .int .i64 site, .int .i64 t2] :: OwnS 9 (some ⟨g3, o3, none⟩) n lc (ke2 gr) :: OwnS 1 ga gn gc gs :: R)) => (enL s.h).1
        have eA_s7 := fun s : Cls (fun w' => St W w' (row T 0 e1.cells :: TabE gp 0 4096 q :: row g 0 [ptrV gp, .int .i64 site, .int .i64 t2] :: OwnS 9 (some ⟨g3, o3, none⟩) n lc (ke2 gr) :: OwnS 1 ga gn gc gs :: R)) => (enL s.h).2.2.2.2.2.2.2
        refine wp_region_class_tail (fun w' => St W w' (row T 0 e1.cells :: TabE gp 0 4096 q :: row g 0 [ptrV gp, .int .i64 site, .int .i64 t2] :: OwnS 9 (some ⟨g3, o3, none⟩) n lc (ke2 gr) :: OwnS 1 ga gn gc gs :: R)) 7 (by kernel_rfl) (by kernel_rfl) (St.drew s6) ?_
        simp only [List.take_succ_cons, List.take_zero, List.drop_succ_cons, List.drop_zero]
        repeat (go_big_quiet_step (fail))
        clear hN_s7 p0_s7 k0_s7 eA_s7
        refine wpQuiet_nil ?_
        rintro ⟨w7, s7⟩
        dsimp only
        go_wp2_with (go_at_call 73; refine putE_old (v := e1) HA1.out HQN.out (by rw [HKE.out]; exact HA2.out) (St.pick 1 s7) ?_; rintro w8 s8)
        go_roundw
        case rel => exact ⟨i + 1, ga, gn, gc, gs, by omega, by go_num, rfl, hid (by omega), by
          have hst : (gr.take (i + 1)).foldl (gtick1 t2) gr = tput q e1.key e1 := by rw [HST.out, HAG.out, if_pos hb2, HKE.out, HE1.out.2.2]
          rw [hst]; exact (s8.perm [1]).drop⟩
        case measure => simp [intOf]; omega
      | false =>
        have hb2 : ¬ ag < t2 := of_decide_eq_false hb
        try simp only [Act.put, List.setIfInBounds_toArray, List.set_cons_succ, List.set_cons_zero]
        have hN6 : Nonempty (Cls (fun w' => St W w' (row T 0 e1.cells :: TabE gp 0 4096 q :: row g 0 [ptrV gp, .int .i64 site, .int .i64 t2] :: OwnS 9 (some ⟨g3, o3, none⟩) n lc (ke2 gr) :: OwnS 1 ga gn gc gs :: R))) := Cls.inh s5
        have f8 := fun s : Cls (fun w' => St W w' (row T 0 e1.cells :: TabE gp 0 4096 q :: row g 0 [ptrV gp, .int .i64 site, .int .i64 t2] :: OwnS 9 (some ⟨g3, o3, none⟩) n lc (ke2 gr) :: OwnS 1 ga gn gc gs :: R)) => (HAE.out ▸ (enL s.h).2.2.2.2.2.2.1 : (loadG 3 (.pointer (some ⟨T, 8, none⟩))).run Tryz.prog s.w = .ok (.int .i64 ag) s.w)
        have f2 := fun s : Cls (fun w' => St W w' (row T 0 e1.cells :: TabE gp 0 4096 q :: row g 0 [ptrV gp, .int .i64 site, .int .i64 t2] :: OwnS 9 (some ⟨g3, o3, none⟩) n lc (ke2 gr) :: OwnS 1 ga gn gc gs :: R)) => (graLd (St.pick 2 s.h)).2.2
        refine wp_region_class (fun w' => St W w' (row T 0 e1.cells :: TabE gp 0 4096 q :: row g 0 [ptrV gp, .int .i64 site, .int .i64 t2] :: OwnS 9 (some ⟨g3, o3, none⟩) n lc (ke2 gr) :: OwnS 1 ga gn gc gs :: R)) (by kernel_rfl) (by kernel_rfl) (St.drew s5) ?_
        repeat (go_big_quiet_step (fail))
        clear hN6 f8 f2
        refine wpQuiet_nil ?_
        rintro ⟨w6, s6⟩
        dsimp only
        go_wp2_with fail
        try simp only [Act.put, List.setIfInBounds_toArray, List.set_cons_succ, List.set_cons_zero]
        have hN_s7 : Nonempty (Cls (fun w' => St W w' (row T 0 e1.cells :: TabE gp 0 4096 q :: row g 0 [ptrV gp, .int .i64 site, .int .i64 t2] :: OwnS 9 (some ⟨g3, o3, none⟩) n lc (ke2 gr) :: OwnS 1 ga gn gc gs :: R))) := Cls.inh s6
        have p0_s7 := fun s : Cls (fun w' => St W w' (row T 0 e1.cells :: TabE gp 0 4096 q :: row g 0 [ptrV gp, .int .i64 site, .int .i64 t2] :: OwnS 9 (some ⟨g3, o3, none⟩) n lc (ke2 gr) :: OwnS 1 ga gn gc gs :: R)) => (graLd (St.pick 2 s.h)).1
        have k0_s7 := fun s : Cls (fun w' => St W w' (row T 0 e1.cells :: TabE gp 0 4096 q :: row g 0 [ptrV gp, .int .i64 site, .int .i64 t2] :: OwnS 9 (some ⟨g3, o3, none⟩) n lc (ke2 gr) :: OwnS 1 ga gn gc gs :: R)) => (enL s.h).1
        refine wp_region_class_tail (fun w' => St W w' (row T 0 e1.cells :: TabE gp 0 4096 q :: row g 0 [ptrV gp, .int .i64 site, .int .i64 t2] :: OwnS 9 (some ⟨g3, o3, none⟩) n lc (ke2 gr) :: OwnS 1 ga gn gc gs :: R)) 6 (by kernel_rfl) (by kernel_rfl) (St.drew s6) ?_
        simp only [List.take_succ_cons, List.take_zero, List.drop_succ_cons, List.drop_zero]
        repeat (go_big_quiet_step (fail))
        clear hN_s7 p0_s7 k0_s7
        refine wpQuiet_nil ?_
        rintro ⟨w7, s7⟩
        dsimp only
        go_wp2_with (first
          | (go_at_call 90; refine dropE_c HA1.out HQN.out (by rw [HKE.out]; exact HA2.out) (St.pick 1 s7) ?_; rintro w8 s8; have lk := (enL (St.pick 1 s8)).1
             have sG : St W _ (OwnS 1 ga gn gc gs :: TabE gp 0 4096 (tdel q e1.key) :: row T 0 e1.cells :: row g 0 [ptrV gp, .int .i64 site, .int .i64 t2] :: OwnS 9 (some ⟨g3, o3, none⟩) n lc (ke2 gr) :: R) := s8.perm [4]
             have sA : St W _ (row w8.heap.size 0 [.string e1.key] :: _) := sG.alloc #[.string e1.key] 9
             have sB := sA.perm [1]
             have rS : RdS _ 1 (some ⟨w8.heap.size, 0, none⟩) 1 1 [.string e1.key] := sA.rowRd rfl (by decide) (by simp [Value.oneCell']))
          | (at_builtin; go_loud (refine wpl_append rfl (.tmp 39) (.tmp 42) rfl Tryz.elem56 rfl rfl sB rS (by omega) (by unfold maxLen; omega) ?_; rintro a9 c9 w9 s9)))
        go_roundw
        case rel => exact ⟨i + 1, a9, gn + 1, c9, _, by omega, by go_num, rfl, hid (by omega), by
          have hst : (gr.take (i + 1)).foldl (gtick1 t2) gr = tdel q e1.key := by rw [HST.out, HAG.out, if_neg (by omega), HKE.out]
          rw [hst]; exact ((s9.perm [1, 2]).dropN 2).perm [1, 1, 1]⟩
        case measure => simp [intOf]; omega
    · have hie : i = n := by omega
      subst hie
      have hf : (gr.take i).foldl (gtick1 t2) gr = gr.foldl (gtick1 t2) gr := by rw [List.take_of_length_le (by rw [HN.out]; exact Nat.le_refl _)]
      rw [hf] at sr
      clear hf
      go_wp2_with fail
      exact HK.out _ _ (((sr.perm [2, 2]).dropN 2).perm [1])
end
end Go.Proofs.YtggbeedghblakaaGreatDoor

/- The replica's Tick. Printed by mkTikB.py. -/
namespace Go.Proofs.YtggbeedghblakaaGreatDoor
open Go.RowKit Go.Qd RepV

def svC (l : List ByteArray) : List Value := l.map Value.string
theorem rank_empty (l : List KE) : rankK kLt Prod.fst l ⟨#[]⟩ = 0 := by
  unfold rankK
  refine List.countP_eq_zero.2 fun x _ => ?_
  rw [kLt_eq]
  simp
theorem scan_all (l : List KE) : scanL l ⟨#[]⟩ (l.length : Nat) = l := by
  unfold scanL
  rw [rank_empty, List.drop_zero, Int.toNat_natCast, List.take_length]
theorem hash_older (e : EnV) : hashE e.older = hashE { e with age := e.age + 1 } := rfl
theorem t1Ld {W w : World} {R : List HP} {A : RAd} {r : RepV} (s : St W w (RepA A r :: R)) : (loadG 3 (.pointer (some ⟨A.p, 3, none⟩))).run Tryz.prog w = .ok (.int .i64 r.t1) w :=
  run_ldP (by kernel_rfl) (repRow (RepA.open.1 s) 3 _ rfl)
theorem pair_ld {W w : World} {R : List HP} {T : Nat} {p : KE} (s : St W w (row T 0 (peC p) :: R)) : (loadG 39 (.pointer (some ⟨T, 1, none⟩))).run Tryz.prog w = .ok (.agg p.2.cells.toArray) w := by
  have := run_loadG (o := 0 + 1) agg_en (vs := p.2.cells) rfl (St.rowPart s 1 (xs := p.2.cells) (ys := []) (by simp [peC]))
  exact this

section
attribute [local go_sem ↓] execOp_ldAny execOp_stE execOp_bslStr
attribute [local go_sem] run_bslStr
variable {W w : World} {R : List HP} {post : Ending → World → Prop} {A : RAd} {r : RepV}

set_option maxRecDepth 100000 in
set_option maxHeartbeats 16000000 in
theorem rtick_c (h : RepOK r) (hT : ∀ p ∈ r.tab, checkE p.2 = 0) (hG : ∀ p ∈ r.gr, checkE p.2 = 0) (st : St W w (RepA A r :: R))
    (K : ∀ a n c w', St W w' (OwnS 1 a n c (svC r.tickG) :: RepA A r.tick :: R) → post (.returned (.slice a n c)) w') :
    Calls Tryz.prog 30 #[.pointer (some ⟨A.p, 0, none⟩)] w post := by
  have HK := hid K; clear K
  have HH := hid h; have HTT := hid hT; have HGG := hid hG
  have hl : r.tab.length ≤ 4096 := by have := h.len; have := h.room; omega
  have HL := hid hl
  have f3 := t1Ld st
  by_cases h0 : r.t1 = 0
  · have H1 : Hid (r.tick = r) := hid (by unfold RepV.tick; rw [if_pos h0])
    have H2 : Hid (r.tickG = []) := hid (by unfold RepV.tickG; rw [if_pos h0])
    rw [h0] at f3
    clear h hT hG hl h0
    go_enter Tryz.func30, Tryz.ntmps30
    go_wp2_with fail
    exact HK.out _ _ _ _ (by rw [H1.out, H2.out]; exact OwnS.none0 st)
  have HTK : Hid (r.tick = { r.tab.foldl RepV.tick1 r with gr := r.gr.foldl (gtick1 r.t2) r.gr }) := hid (by unfold RepV.tick; rw [if_neg h0]; rfl)
  have HTG : Hid (r.tickG = tickGs r.t1 r.tab) := hid (by unfold RepV.tickG; rw [if_neg h0]; rfl)
  clear h hT hG hl
  obtain ⟨zt, hzt⟩ : ∃ z, r.t1 = z := ⟨_, rfl⟩
  have HZT := hid hzt
  rw [hzt] at f3 h0
  clear hzt
  go_enter Tryz.func30, Tryz.ntmps30
  go_upto_region 4 with (fail)
  have u := st.drew
  have gA := (repLd u).2.1
  go_region_held3 (fun w' => (loadG 77 (.pointer (some ⟨A.p, 7, none⟩))).run Tryz.prog w' = .ok (.pointer (some ⟨A.tb, 0, none⟩)) w')
    (first
      | with_reducible exact gB
      | with_reducible exact gA)
    (first
      | (go_at_call 89; refine lenE_c HL.out (St.pick 2 (RepA.open.1 u)) ?_)
      | (go_at_call 88; refine scanE_c HH.out.tab HL.out (St.pick 2 (RepA.open.1 u)) ?_; rintro la n lc w4 hn4 s4; rw [scan_all] at s4 hn4; have HN := hid hn4; clear hn4; have s5 : St W w4 (RepA A r :: OwnS 10 la n lc (tabC r.tab) :: R) := RepA.open.2 (s4.perm [2, 2, 1, 1, 1, 1, 1, 1, 1]); have gB := (repLd s5).2.1))
  go_wp2_with fail
  clear gA gB
  have hn4 : n ≤ 4096 := by rw [HN.out]; exact HL.out
  clear s4
  go_loopw [3, 24] (fun gv ii wr => ∃ (i : Nat) (ga : Option Addr) (gn gc : Nat) (q : RepV), i ≤ n ∧ ii = .int .i64 i ∧ gv = .slice ga gn gc ∧ Hid (gn ≤ i) ∧ Hid (q = (r.tab.take i).foldl RepV.tick1 r) ∧
    St W wr (RepA A q :: OwnS 10 la n lc (tabC r.tab) :: OwnS 1 ga gn gc (svC (tickGs r.t1 (r.tab.take i))) :: R)) (fun _ ii _ => n - (intOf ii).toNat)
  case atStart => exact ⟨0, none, 0, 0, r, Nat.zero_le _, rfl, rfl, hid (Nat.le_refl _), hid rfl, ((OwnS.none0 s5).perm [1, 1])⟩
  case round =>
    obtain ⟨i, ga, gn, gc, q, hi, rfl, rfl, HG, HQE, sr⟩ := hrel
    by_cases hlt : i < n
    · have hi2 : (i : Int) < (n : Int) := by omega
      have hiA : i < r.tab.length := by rw [← HN.out]; exact hlt
      have rd := OwnS.rd (St.pick 1 sr)
      obtain ⟨g3, o3, rfl⟩ := rd.addr (by omega)
      have ci := tabC_ld rd hiA
      obtain ⟨a1, a2, a3, a4⟩ := tick_at HH.out hiA
      have hck := checkE_ages (HTT.out _ (List.getElem_mem hiA))
      have hsn := tickGs_snoc r.t1 hiA
      obtain ⟨p, hp⟩ : ∃ p, r.tab[i] = p := ⟨_, rfl⟩
      rw [← HQE.out] at a1 a2 a3 a4
      rw [hp] at ci a2 a4 hck hsn
      obtain ⟨e, he⟩ : ∃ e, p.2 = e := ⟨_, rfl⟩
      have hqn : q.tab.length ≤ 4096 := by have := a1.len; have := a1.room; omega
      have HA1 := hid a1; have HA2 := hid (he ▸ a2); have HA3 := hid a3; have HA4 := hid a4; have HQN := hid hqn; have HPE := hid he; have HSN := hid hsn
      have hck' : 0 ≤ e.age ∧ e.age ≤ 2147483647 := he ▸ hck
      have hw : IntKind.i64.wrap (e.age + 1) = e.age + 1 := IntWalk.i64_in _ (by omega)
      have HG2 := HG.out
      clear hp he a1 a2 a3 a4 hqn rd hiA hck hck' hsn
      obtain ⟨gs, hgs⟩ : ∃ gs, svC (tickGs r.t1 (r.tab.take i)) = gs := ⟨_, rfl⟩
      rw [hgs] at sr
      have HGS := hid hgs
      clear hgs
      cases hd : e.dead with
      | false =>
        have HD := hid hd
        clear hd
        go_wp2_with (first
          | (refine wpl_allocA rfl rfl zero_pe sr ?_; rintro T w2 s2)
          | (refine wpl_storeA (vs := peC p) rfl (.tmp 5) (.tmp 27) (by rfl) agg_pe (by rfl) (by rfl) rfl (pe_one _) s2 rfl ?_; rintro w3 s3; have lp := pair_ld s3; rw [HPE.out] at lp)
          | (refine wpl_allocA rfl rfl zero_en s3 ?_; rintro U w4 s4)
          | (refine wpl_storeA (vs := e.cells) rfl (.tmp 6) (.tmp 29) (by rfl) agg_en (by rfl) (by rfl) rfl (env_one _) s4 rfl ?_; rintro w5 s5; have ld := (enL s5).2.2.1; rw [HD.out] at ld))
        go_roundw
        case rel => exact ⟨i + 1, ga, gn, gc, q, by omega, by go_num, rfl, hid (by omega), hid (by rw [HA4.out]; unfold RepV.tick1; rw [HPE.out, HD.out, if_pos rfl]), by
          have hst : svC (tickGs r.t1 (r.tab.take (i + 1))) = gs := by rw [HSN.out, if_neg (by unfold goes1; rw [HPE.out, HD.out]; simp), List.append_nil]; exact HGS.out
          rw [hst]; exact s5.dropN 2⟩
        case measure => simp [intOf]; omega
      | true =>
      have HD := hid hd
      clear hd
      go_upto_region 10 with (first
        | (refine wpl_allocA rfl rfl zero_pe sr ?_; rintro T w2 s2)
        | (refine wpl_storeA (vs := peC p) rfl (.tmp 5) (.tmp 27) (by rfl) agg_pe (by rfl) (by rfl) rfl (pe_one _) s2 rfl ?_; rintro w3 s3; have lp := pair_ld s3; rw [HPE.out] at lp)
        | (refine wpl_allocA rfl rfl zero_en s3 ?_; rintro U w4 s4)
        | (refine wpl_storeA (vs := e.cells) rfl (.tmp 6) (.tmp 29) (by rfl) agg_en (by rfl) (by rfl) rfl (env_one _) s4 rfl ?_; rintro w5 s5; have ld := (enL s5).2.2.1; rw [HD.out] at ld; obtain ⟨d8, f8, s6⟩ := age_set s5 (e.age + 1); have l8 := run_ldP (t := 3) (by kernel_rfl) d8))
      obtain ⟨e1, he1⟩ : ∃ e1 : EnV, e1 = { e with age := e.age + 1 } := ⟨_, rfl⟩
      have s7 : St W (w5.setCell ⟨U, 8, none⟩ (.int .i64 (e.age + 1))) (row U 0 e1.cells :: RepA A q :: row T 0 (peC p) :: OwnS 10 (some ⟨g3, o3, none⟩) n lc (tabC r.tab) :: OwnS 1 ga gn gc gs :: R) := by rw [he1]; exact s6.perm [0, 1]
      have hag : e1.age = e.age + 1 := by rw [he1]
      have HKE : Hid (e1.key = e.key) := hid (by rw [he1])
      have HOL : Hid (e1 = e.older) := hid (by rw [he1]; rfl)
      clear he1 d8 f8 l8 ld lp s2 s3 s4 s5 s6
      obtain ⟨ag, hag2⟩ : ∃ ag, e.age + 1 = ag := ⟨_, rfl⟩
      have HAG := hid hag2
      have HAE : Hid (e1.age = ag) := hid (by rw [hag, hag2])
      clear hag hag2 hw
      generalize w5.setCell ⟨U, 8, none⟩ (.int .i64 (e.age + 1)) = w7 at s7 ⊢
      cases hb : decide (ag < q.t1) with
      | true =>
        have hb2 : ag < q.t1 := of_decide_eq_true hb
        try simp only [Act.put, List.setIfInBounds_toArray, List.set_cons_succ, List.set_cons_zero]
        have hN6 : Nonempty (Cls (fun w' => St W w' (row U 0 e1.cells :: RepA A q :: row T 0 (peC p) :: OwnS 10 (some ⟨g3, o3, none⟩) n lc (tabC r.tab) :: OwnS 1 ga gn gc gs :: R))) := Cls.inh s7
        have f8 := fun s : Cls (fun w' => St W w' (row U 0 e1.cells :: RepA A q :: row T 0 (peC p) :: OwnS 10 (some ⟨g3, o3, none⟩) n lc (tabC r.tab) :: OwnS 1 ga gn gc gs :: R)) => (HAE.out ▸ (enL s.h).2.2.2.2.2.2.1 : (loadG 3 (.pointer (some ⟨U, 8, none⟩))).run Tryz.prog s.w = .ok (.int .i64 ag) s.w)
        have f2 := fun s : Cls (fun w' => St W w' (row U 0 e1.cells :: RepA A q :: row T 0 (peC p) :: OwnS 10 (some ⟨g3, o3, none⟩) n lc (tabC r.tab) :: OwnS 1 ga gn gc gs :: R)) => t1Ld (St.pick 1 s.h)
        refine wp_region_class (fun w' => St W w' (row U 0 e1.cells :: RepA A q :: row T 0 (peC p) :: OwnS 10 (some ⟨g3, o3, none⟩) n lc (tabC r.tab) :: OwnS 1 ga gn gc gs :: R)) (by kernel_rfl) (by kernel_rfl) (St.drew s7) ?_
        repeat (go_big_quiet_step (fail))
        clear hN6 f8 f2
        refine wpQuiet_nil ?_
        rintro ⟨w8, s8⟩
        dsimp only
        go_wp2_with fail
        try simp only [Act.put, List.setIfInBounds_toArray, List.set_cons_succ, List.set_cons_zero]
        have hN_s9 : Nonempty (Cls (fun w' => St W w' (row U 0 e1.cells :: RepA A q :: row T 0 (peC p) :: OwnS 10 (some ⟨g3, o3, none⟩) n lc (tabC r.tab) :: OwnS 1 ga gn gc gs :: R))) := Cls.inh s8
        have f7_s9 := fun s : Cls (fun w' => St W w' (row U 0 e1.cells :: RepA A q :: row T 0 (peC p) :: OwnS 10 (some ⟨g3, o3, none⟩) n lc (tabC r.tab) :: OwnS 1 ga gn gc gs :: R)) => (repLd (St.pick 1 s.h)).2.1
        have k0_s9 := fun s : Cls (fun w' => St W w' (row U 0 e1.cells :: RepA A q :: row T 0 (peC p) :: OwnS 10 (some ⟨g3, o3, none⟩) n lc (tabC r.tab) :: OwnS 1 ga gn gc gs :: R)) => (enL s.h).1
        have eA_s9 := fun s : Cls (fun w' => St W w' (row U 0 e1.cells :: RepA A q :: row T 0 (peC p) :: OwnS 10 (some ⟨g3, o3, none⟩) n lc (tabC r.tab) :: OwnS 1 ga gn gc gs :: R)) => (enL s.h).2.2.2.2.2.2.2
        refine wp_region_class_tail (fun w' => St W w' (row U 0 e1.cells :: RepA A q :: row T 0 (peC p) :: OwnS 10 (some ⟨g3, o3, none⟩) n lc (tabC r.tab) :: OwnS 1 ga gn gc gs :: R)) 7 (by kernel_rfl) (by kernel_rfl) (St.drew s8) ?_
        simp only [List.take_succ_cons, List.take_zero, List.drop_succ_cons, List.drop_zero]
        repeat (go_big_quiet_step (fail))
        clear hN_s9 f7_s9 k0_s9 eA_s9
        refine wpQuiet_nil ?_
        rintro ⟨w9, s9⟩
        dsimp only
        go_wp2_with (go_at_call 73; refine putE_old (v := e1) HA1.out.tab HQN.out (by rw [HKE.out]; exact HA2.out) (St.pick 2 (RepA.open.1 (St.pick 1 s9))) ?_; rintro wa sa
                     have sb : St W wa (RepA A { q with tab := tput q.tab e1.key e1 } :: _) := RepA.open.2 (sa.perm [1, 1]))
        go_roundw
        case rel => exact ⟨i + 1, ga, gn, gc, { q with tab := tput q.tab e1.key e1 }, by omega, by go_num, rfl, hid (by omega), hid (by rw [HA4.out]; unfold RepV.tick1; rw [HPE.out, HD.out, if_neg (by decide), HAG.out, if_pos hb2, HKE.out, HOL.out]), by
          have hst : svC (tickGs r.t1 (r.tab.take (i + 1))) = gs := by rw [HSN.out, if_neg (by unfold goes1; rw [HPE.out, HD.out, HAG.out, ← HA3.out]; simp [hb2]), List.append_nil]; exact HGS.out
          rw [hst]; exact (sb.perm [1, 1]).dropN 2⟩
        case measure => simp [intOf]; omega
      | false =>
        have hb2 : ¬ ag < q.t1 := of_decide_eq_false hb
        obtain ⟨q1, hq1⟩ : ∃ q1 : RepV, q1 = { q with tab := tdel q.tab e1.key } := ⟨_, rfl⟩
        obtain ⟨n1, hn1⟩ : ∃ n, n = (q1.sum + (18446744073709551616 - hashE e1)) % 18446744073709551616 := ⟨_, rfl⟩
        have HQ1 := hid hq1; have HN1 := hid hn1
        have HIX : Hid (q1.ix = q.ix) := hid (by rw [hq1])
        have HIL : Hid (q.ix.length ≤ 4096) := hid (by have := HA1.out.ixL; omega)
        have HTQ : Hid (q.tick1 p = { q1 with sum := n1, ix := ixDrop q1.ix e1.key }) := hid (by
          unfold RepV.tick1
          rw [HPE.out, HD.out, if_neg (by decide), HAG.out, if_neg (by omega), hn1, hq1, HKE.out, HOL.out])
        clear hq1 hn1
        try simp only [Act.put, List.setIfInBounds_toArray, List.set_cons_succ, List.set_cons_zero]
        have hN6 : Nonempty (Cls (fun w' => St W w' (row U 0 e1.cells :: RepA A q :: row T 0 (peC p) :: OwnS 10 (some ⟨g3, o3, none⟩) n lc (tabC r.tab) :: OwnS 1 ga gn gc gs :: R))) := Cls.inh s7
        have f8 := fun s : Cls (fun w' => St W w' (row U 0 e1.cells :: RepA A q :: row T 0 (peC p) :: OwnS 10 (some ⟨g3, o3, none⟩) n lc (tabC r.tab) :: OwnS 1 ga gn gc gs :: R)) => (HAE.out ▸ (enL s.h).2.2.2.2.2.2.1 : (loadG 3 (.pointer (some ⟨U, 8, none⟩))).run Tryz.prog s.w = .ok (.int .i64 ag) s.w)
        have f2 := fun s : Cls (fun w' => St W w' (row U 0 e1.cells :: RepA A q :: row T 0 (peC p) :: OwnS 10 (some ⟨g3, o3, none⟩) n lc (tabC r.tab) :: OwnS 1 ga gn gc gs :: R)) => t1Ld (St.pick 1 s.h)
        refine wp_region_class (fun w' => St W w' (row U 0 e1.cells :: RepA A q :: row T 0 (peC p) :: OwnS 10 (some ⟨g3, o3, none⟩) n lc (tabC r.tab) :: OwnS 1 ga gn gc gs :: R)) (by kernel_rfl) (by kernel_rfl) (St.drew s7) ?_
        repeat (go_big_quiet_step (fail))
        clear hN6 f8 f2
        refine wpQuiet_nil ?_
        rintro ⟨w8, s8⟩
        dsimp only
        go_wp2_with fail
        try simp only [Act.put, List.setIfInBounds_toArray, List.set_cons_succ, List.set_cons_zero]
        have hN_s9 : Nonempty (Cls (fun w' => St W w' (row U 0 e1.cells :: RepA A q :: row T 0 (peC p) :: OwnS 10 (some ⟨g3, o3, none⟩) n lc (tabC r.tab) :: OwnS 1 ga gn gc gs :: R))) := Cls.inh s8
        have f7_s9 := fun s : Cls (fun w' => St W w' (row U 0 e1.cells :: RepA A q :: row T 0 (peC p) :: OwnS 10 (some ⟨g3, o3, none⟩) n lc (tabC r.tab) :: OwnS 1 ga gn gc gs :: R)) => (repLd (St.pick 1 s.h)).2.1
        have k0_s9 := fun s : Cls (fun w' => St W w' (row U 0 e1.cells :: RepA A q :: row T 0 (peC p) :: OwnS 10 (some ⟨g3, o3, none⟩) n lc (tabC r.tab) :: OwnS 1 ga gn gc gs :: R)) => (enL s.h).1
        refine wp_region_class_tail (fun w' => St W w' (row U 0 e1.cells :: RepA A q :: row T 0 (peC p) :: OwnS 10 (some ⟨g3, o3, none⟩) n lc (tabC r.tab) :: OwnS 1 ga gn gc gs :: R)) 6 (by kernel_rfl) (by kernel_rfl) (St.drew s8) ?_
        simp only [List.take_succ_cons, List.take_zero, List.drop_succ_cons, List.drop_zero]
        repeat (go_big_quiet_step (fail))
        clear hN_s9 f7_s9 k0_s9
        refine wpQuiet_nil ?_
        rintro ⟨w9, s9⟩
        dsimp only
        go_wp2_with (go_at_call 90; refine dropE_c HA1.out.tab HQN.out (by rw [HKE.out]; exact HA2.out) (St.pick 2 (RepA.open.1 (St.pick 1 s9))) ?_; rintro wa sa
                     have sb : St W wa (RepA A q1 :: _) := RepA.open.2 (by rw [HQ1.out]; exact sa.perm [1, 1])
                     have sc := St.pick 1 sb)
        try simp only [Act.put, List.setIfInBounds_toArray, List.set_cons_succ, List.set_cons_zero]
        have hN_sd : Nonempty (Cls (fun w' => St W w' (row U 0 e1.cells :: RepA A q1 :: row T 0 (peC p) :: OwnS 10 (some ⟨g3, o3, none⟩) n lc (tabC r.tab) :: OwnS 1 ga gn gc gs :: R))) := Cls.inh sc
        have eA_sd := fun s : Cls (fun w' => St W w' (row U 0 e1.cells :: RepA A q1 :: row T 0 (peC p) :: OwnS 10 (some ⟨g3, o3, none⟩) n lc (tabC r.tab) :: OwnS 1 ga gn gc gs :: R)) => (enL s.h).2.2.2.2.2.2.2
        refine wp_region_class_tail (fun w' => St W w' (row U 0 e1.cells :: RepA A q1 :: row T 0 (peC p) :: OwnS 10 (some ⟨g3, o3, none⟩) n lc (tabC r.tab) :: OwnS 1 ga gn gc gs :: R)) 4 (by kernel_rfl) (by kernel_rfl) (St.drew sc) ?_
        simp only [List.take_succ_cons, List.take_zero, List.drop_succ_cons, List.drop_zero]
        repeat (go_big_quiet_step (fail))
        clear hN_sd eA_sd
        refine wpQuiet_nil ?_
        rintro ⟨wd, sd⟩
        dsimp only
        go_wp2_with (go_at_call 91; refine sumDrop_c (o := 6) (n := q1.sum) rfl (RepA.open.1 (St.pick 1 sd)) ?_; rintro vb we se
                     have sf : St W we (RepA A { q1 with sum := n1 } :: _) := RepA.open.2 (by rw [HN1.out]; exact se)
                     have sg := St.pick 1 sf)
        try simp only [Act.put, List.setIfInBounds_toArray, List.set_cons_succ, List.set_cons_zero]
        have hN_sh : Nonempty (Cls (fun w' => St W w' (row U 0 e1.cells :: RepA A { q1 with sum := n1 } :: row T 0 (peC p) :: OwnS 10 (some ⟨g3, o3, none⟩) n lc (tabC r.tab) :: OwnS 1 ga gn gc gs :: R))) := Cls.inh sg
        have f9_sh := fun s : Cls (fun w' => St W w' (row U 0 e1.cells :: RepA A { q1 with sum := n1 } :: row T 0 (peC p) :: OwnS 10 (some ⟨g3, o3, none⟩) n lc (tabC r.tab) :: OwnS 1 ga gn gc gs :: R)) => (repLd (St.pick 1 s.h)).2.2.2.1
        have k0_sh := fun s : Cls (fun w' => St W w' (row U 0 e1.cells :: RepA A { q1 with sum := n1 } :: row T 0 (peC p) :: OwnS 10 (some ⟨g3, o3, none⟩) n lc (tabC r.tab) :: OwnS 1 ga gn gc gs :: R)) => (enL s.h).1
        refine wp_region_class_tail (fun w' => St W w' (row U 0 e1.cells :: RepA A { q1 with sum := n1 } :: row T 0 (peC p) :: OwnS 10 (some ⟨g3, o3, none⟩) n lc (tabC r.tab) :: OwnS 1 ga gn gc gs :: R)) 6 (by kernel_rfl) (by kernel_rfl) (St.drew sg) ?_
        simp only [List.take_succ_cons, List.take_zero, List.drop_succ_cons, List.drop_zero]
        repeat (go_big_quiet_step (fail))
        clear hN_sh f9_sh k0_sh
        refine wpQuiet_nil ?_
        rintro ⟨wh, sh⟩
        dsimp only
        go_wp2_with (first
          | (go_at_call 92; refine ixdrop_c (l := q1.ix) (by rw [HIX.out]; exact HA1.out.ix) (by rw [HIX.out]; exact HIL.out) (St.pick 4 (RepA.open.1 (St.pick 1 sh))) ?_; rintro wj sj
             have sk : St W wj (RepA A { q1 with sum := n1, ix := ixDrop q1.ix e1.key } :: _) := RepA.open.2 (sj.perm [1, 1, 1, 1])
             have lk := (enL (St.pick 1 sk)).1
             have sG : St W wj (OwnS 1 ga gn gc gs :: RepA A { q1 with sum := n1, ix := ixDrop q1.ix e1.key } :: row U 0 e1.cells :: row T 0 (peC p) :: OwnS 10 (some ⟨g3, o3, none⟩) n lc (tabC r.tab) :: R) := sk.perm [4]
             have sA : St W _ (row wj.heap.size 0 [.string e1.key] :: _) := sG.alloc #[.string e1.key] 9
             have sB := sA.perm [1]
             have rS : RdS _ 1 (some ⟨wj.heap.size, 0, none⟩) 1 1 [.string e1.key] := sA.rowRd rfl (by decide) (by simp [Value.oneCell']))
          | (at_builtin; go_loud (refine wpl_append rfl (.tmp 72) (.tmp 75) rfl Tryz.elem56 rfl rfl sB rS (by omega) (by unfold maxLen; omega) ?_; rintro a9 c9 wz sz)))
        go_roundw
        case rel => exact ⟨i + 1, a9, gn + 1, c9, { q1 with sum := n1, ix := ixDrop q1.ix e1.key }, by omega, by go_num, rfl, hid (by omega), hid (by rw [HA4.out]; exact HTQ.out.symm), by
          have hst : svC (tickGs r.t1 (r.tab.take (i + 1))) = gs ++ [.string e1.key] := by
            rw [HSN.out, if_pos (by unfold goes1; rw [HPE.out, HD.out, HAG.out, ← HA3.out]; simp; omega), ← HGS.out, HKE.out, HPE.out]; simp [svC]
          rw [hst]; exact ((sz.perm [1, 2, 2]).dropN 3).perm [1, 1]⟩
        case measure => simp [intOf]; omega
    · have hie : i = n := by omega
      subst hie
      have hf : r.tab.take i = r.tab := List.take_of_length_le (by rw [HN.out]; exact Nat.le_refl _)
      rw [hf] at sr
      obtain ⟨hok, hsm, _⟩ := tick_state HH.out i (by rw [HN.out]; exact Nat.le_refl _)
      have HQ2 := HQE.out
      rw [← HQ2] at hok hsm
      rw [hf] at HQ2
      unfold SameT at hsm
      have hg1 : q.gr = r.gr := by rw [hsm]
      have hg2 : q.t2 = r.t2 := by rw [hsm]
      have HOK := hid hok
      have HGC : Hid (∀ p ∈ q.gr, checkE p.2 = 0) := hid (by rw [hg1]; exact HGG.out)
      have HFN : Hid ({ q with gr := q.gr.foldl (gtick1 q.t2) q.gr } = r.tick) := hid (by rw [HTK.out, ← HQ2, hg1, hg2])
      have HFG : Hid (svC (tickGs r.t1 r.tab) = svC r.tickG) := hid (by rw [HTG.out])
      rw [HFG.out] at sr
      have fg := (repLd sr).2.2.2.2.1
      clear hf hok hsm HQ2 hg1 hg2 HQE
      go_wp2_with (go_at_call 93; refine gtick_c HOK.out.gr HOK.out.grK HOK.out.grL HGC.out ((RepA.open.1 sr).perm [5, 5]) ?_; rintro vz wz sz)
      have s9 : St W wz (RepA A { q with gr := q.gr.foldl (gtick1 q.t2) q.gr } :: _) := RepA.open.2 (sz.perm [2, 2, 2, 2, 2, 0, 0])
      rw [HFN.out] at s9
      exact HK.out _ _ _ _ (((s9.perm [1]).drop).perm [1])
end
end Go.Proofs.YtggbeedghblakaaGreatDoor
