/- The graves' Tick. Printed by mkTikA.py. -/
import Derived.Test.YtggbeedghblakaaGreatDoorTikL
import Derived.Test.YtggbeedghblakaaGreatDoorRngG
import Derived.Test.YtggbeedghblakaaGreatDoorTabX
namespace Go.Proofs.YtggbeedghblakaaGreatDoor
open Go.RowKit Go.Qd RepV

theorem ke2_ld {w : World} {b o n c i : Nat} {l : List KE} (rd : RdS w 9 (some ⟨b, o, none⟩) n c (ke2 l)) (hi : i < l.length) :
    (loadG 39 (.pointer (some ⟨b, o + i * 9, none⟩))).run Tryz.prog w = .ok (.agg l[i].2.cells.toArray) w := by
  have := enC_ld rd (i := i) (by simpa using hi)
  rwa [List.getElem_map] at this
/-- An entry's age is written. -/
theorem age_set {W w : World} {R : List HP} {T : Nat} {e : EnV} (s : St W w (row T 0 e.cells :: R)) (n : Int) :
    w.cell? ⟨T, 8, none⟩ = some (.int .i64 e.age) ∧ w.frozen? ⟨T, 8, none⟩ = false ∧ St W (w.setCell ⟨T, 8, none⟩ (.int .i64 n)) (row T 0 { e with age := n }.cells :: R) := by
  have d8 := s.rowCell (i := 8) (v := .int .i64 e.age) rfl
  have f8 := s.rowFree (i := 8) (by show 8 < 9; decide)
  have s3 : St W _ (row T 0 { e with age := n }.cells :: R) := s.rowSet (i := 8) (by show 8 < 9; decide) (.int .i64 n)
  rw [Nat.zero_add] at d8 f8 s3
  exact ⟨d8, f8, s3⟩

theorem execOp_bslStr (ρ : Operand → Value) (dst : Option Tmp) (a : Operand) (ty : TypeId) (pos : String) (after : Array Edge) (guard : Option (Nat × Bool)) :
    execOp ρ { dst, op := .buildSlice 56 1 #[(0, a)], type := ty, pos, after, guard } = (do pure (.value (← bslG 56 (ρ a)))) := by simp [execOp, bslG]
theorem run_bslStr (x : ByteArray) (w : World) : (bslG 56 (.string x)).run Tryz.prog w = .ok (.slice (some ⟨w.heap.size, 0, none⟩) 1 1) (w.alloc (.cells #[.string x] 9)) := by kernel_rfl

section
attribute [local go_sem ↓] execOp_ldAny execOp_stE execOp_bslStr
attribute [local go_sem] run_bslStr
variable {W w : World} {R : List HP} {post : Ending → World → Prop}

set_option maxRecDepth 100000 in
set_option maxHeartbeats 8000000 in
theorem gtick_c {g gp : Nat} {site t2 : Int} {gr : List KE} (hs : TSrt gr) (hk : ∀ p ∈ gr, p.1 = p.2.key) (hn : gr.length ≤ 4096) (hc : ∀ p ∈ gr, checkE p.2 = 0)
    (st : St W w (row g 0 [ptrV gp, .int .i64 site, .int .i64 t2] :: TabE gp 0 4096 gr :: R))
    (K : ∀ v w', St W w' (row g 0 [ptrV gp, .int .i64 site, .int .i64 t2] :: TabE gp 0 4096 (gr.foldl (gtick1 t2) gr) :: R) → post (.returned v) w') :
    Calls Tryz.prog 93 #[.pointer (some ⟨g, 0, none⟩)] w post := by
  have HK := hid K; clear K
  have HS := hid hs; have HKY := hid hk; have HL := hid hn; have HC := hid hc
  clear hs hk hn hc
  go_enter Tryz.func93, Tryz.ntmps93
  go_wp2_with (go_at_call 96; refine gall_c HL.out st ?_; rintro la n lc w1 hn1 s1; have HN := hid hn1; clear hn1)
  have hn4 : n ≤ 4096 := by rw [HN.out]; exact HL.out
  go_loopw [3, 9] (fun gv ii wr => ∃ (i : Nat) (ga : Option Addr) (gn gc : Nat) (gs : List Value), i ≤ n ∧ ii = .int .i64 i ∧ gv = .slice ga gn gc ∧ Hid (gn ≤ i) ∧
    St W wr (TabE gp 0 4096 ((gr.take i).foldl (gtick1 t2) gr) :: row g 0 [ptrV gp, .int .i64 site, .int .i64 t2] :: OwnS 9 la n lc (ke2 gr) :: OwnS 1 ga gn gc gs :: R)) (fun _ ii _ => n - (intOf ii).toNat)
  case atStart => exact ⟨0, none, 0, 0, [], Nat.zero_le _, rfl, rfl, hid (Nat.le_refl _), ((OwnS.none0 s1).perm [3, 2, 1])⟩
  case round =>
    obtain ⟨i, ga, gn, gc, gs, hi, rfl, rfl, HG, sr⟩ := hrel
    by_cases hlt : i < n
    · have hi2 : (i : Int) < (n : Int) := by omega
      have hiA : i < gr.length := by rw [← HN.out]; exact hlt
      have rd := OwnS.rd (St.pick 2 sr)
      obtain ⟨g3, o3, rfl⟩ := rd.addr (by omega)
      have ci := ke2_ld rd hiA
      obtain ⟨a1, a2, a3, a4⟩ := gtick_at (t2 := t2) HS.out HKY.out hiA
      have hck := checkE_ages (HC.out _ (List.getElem_mem hiA))
      obtain ⟨q, hq⟩ : ∃ q, (gr.take i).foldl (gtick1 t2) gr = q := ⟨_, rfl⟩
      obtain ⟨p, hp⟩ : ∃ p, gr[i] = p := ⟨_, rfl⟩
      rw [hq] at a1 a2 a3 a4 sr
      rw [hp] at ci a2 a4 hck
      obtain ⟨e, he⟩ : ∃ e, p.2 = e := ⟨_, rfl⟩
      rw [he] at ci a2 hck
      have hqn : q.length ≤ 4096 := by have := HL.out; omega
      have HA1 := hid a1; have HA2 := hid a2; have HA4 := hid a4; have HQN := hid hqn
      have hw : IntKind.i64.wrap (e.age + 1) = e.age + 1 := IntWalk.i64_in _ (by omega)
      have HST : Hid ((gr.take (i + 1)).foldl (gtick1 t2) gr = if e.age + 1 < t2 then tput q e.key e.older else tdel q e.key) := hid (by rw [HA4.out]; unfold gtick1; rw [he])
      have HG2 := HG.out
      clear hq hp he a1 a2 a3 a4 hqn rd hiA hck HA4
      go_upto_region 6 with (first
        | (refine wpl_allocA rfl rfl zero_en sr ?_; rintro T w2 s2)
        | (refine wpl_storeA (vs := e.cells) rfl (.tmp 5) (.tmp 12) (by rfl) agg_en (by rfl) (by rfl) rfl (env_one _) s2 rfl ?_; rintro w3 s3; obtain ⟨d8, f8, s4⟩ := age_set s3 (e.age + 1); have l8 := run_ldP (t := 3) (by kernel_rfl) d8))
      obtain ⟨e1, he1⟩ : ∃ e1 : EnV, e1 = { e with age := e.age + 1 } := ⟨_, rfl⟩
      have s5 : St W (w3.setCell ⟨T, 8, none⟩ (.int .i64 (e.age + 1))) (row T 0 e1.cells :: TabE gp 0 4096 q :: row g 0 [ptrV gp, .int .i64 site, .int .i64 t2] :: OwnS 9 (some ⟨g3, o3, none⟩) n lc (ke2 gr) :: OwnS 1 ga gn gc gs :: R) := by rw [he1]; exact s4
      have HE1 : Hid (e1.key = e.key ∧ e1.age = e.age + 1 ∧ e1 = e.older) := hid (by rw [he1]; exact ⟨rfl, rfl, rfl⟩)
      have hag : e1.age = e.age + 1 := HE1.out.2.1
      have hky : e1.key = e.key := HE1.out.1
      clear he1 d8 f8 l8 s4 s3 s2
      obtain ⟨ag, hag2⟩ : ∃ ag, e.age + 1 = ag := ⟨_, rfl⟩
      have HAG := hid hag2
      have HAE : Hid (e1.age = ag) := hid (by rw [hag, hag2])
      have HKE := hid hky
      clear hag hag2 hw hky
      generalize w3.setCell ⟨T, 8, none⟩ (.int .i64 (e.age + 1)) = w5 at s5 ⊢
      cases hb : decide (ag < t2) with
      | true =>
        have hb2 : ag < t2 := of_decide_eq_true hb
        try simp only [Act.put, List.setIfInBounds_toArray, List.set_cons_succ, List.set_cons_zero]
        have hN6 : Nonempty (Cls (fun w' => St W w' (row T 0 e1.cells :: TabE gp 0 4096 q :: row g 0 [ptrV gp, .int .i64 site, .int .i64 t2] :: OwnS 9 (some ⟨g3, o3, none⟩) n lc (ke2 gr) :: OwnS 1 ga gn gc gs :: R))) := Cls.inh s5
        have f8 := fun s : Cls (fun w' => St W w' (row T 0 e1.cells :: TabE gp 0 4096 q :: row g 0 [ptrV gp, .int .i64 site, .int .i64 t2] :: OwnS 9 (some ⟨g3, o3, none⟩) n lc (ke2 gr) :: OwnS 1 ga gn gc gs :: R)) => (HAE.out ▸ (enL s.h).2.2.2.2.2.2.1 : (loadG 3 (.pointer (some ⟨T, 8, none⟩))).run Tryz.prog s.w = .ok (.int .i64 ag) s.w)
        have f2 := fun s : Cls (fun w' => St W w' (row T 0 e1.cells :: TabE gp 0 4096 q :: row g 0 [ptrV gp, .int .i64 site, .int .i64 t2] :: OwnS 9 (some ⟨g3, o3, none⟩) n lc (ke2 gr) :: OwnS 1 ga gn gc gs :: R)) => (graLd (St.pick 2 s.h)).2.2
        refine wp_region_class (fun w' => St W w' (row T 0 e1.cells :: TabE gp 0 4096 q :: row g 0 [ptrV gp, .int .i64 site, .int .i64 t2] :: OwnS 9 (some ⟨g3, o3, none⟩) n lc (ke2 gr) :: OwnS 1 ga gn gc gs :: R)) (by kernel_rfl) (by kernel_rfl) (St.drew s5) ?_
        repeat (go_big_quiet_step (fail))
        clear hN6 f8 f2
        refine wpQuiet_nil ?_
        rintro ⟨w6, s6⟩
        dsimp only
        go_wp2_with fail
        try simp only [Act.put, List.setIfInBounds_toArray, List.set_cons_succ, List.set_cons_zero]
        have hN_s7 : Nonempty (Cls (fun w' => St W w' (row T 0 e1.cells :: TabE gp 0 4096 q :: row g 0 [ptrV gp, .int .i64 site, .int .i64 t2] :: OwnS 9 (some ⟨g3, o3, none⟩) n lc (ke2 gr) :: OwnS 1 ga gn gc gs :: R))) := Cls.inh s6
        have p0_s7 := fun s : Cls (fun w' => St W w' (row T 0 e1.cells :: TabE gp 0 4096 q :: row g 0 [ptrV gp, .int .i64 site, .int .i64 t2] :: OwnS 9 (some ⟨g3, o3, none⟩) n lc (ke2 gr) :: OwnS 1 ga gn gc gs :: R)) => (graLd (St.pick 2 s.h)).1
        have k0_s7 := fun s : Cls (fun w' => St W w' (row T 0 e1.cells :: TabE gp 0 4096 q :: row g 0 [ptrV gp, .int .i64 site, .int .i64 t2] :: OwnS 9 (some ⟨g3, o3, none⟩) n lc (ke2 gr) :: OwnS 1 ga gn gc gs :: R)) => (enL s.h).1
        have eA_s7 := fun s : Cls (fun w' => St W w' (row T 0 e1.cells :: TabE gp 0 4096 q :: row g 0 [ptrV gp, .int .i64 site, .int .i64 t2] :: OwnS 9 (some ⟨g3, o3, none⟩) n lc (ke2 gr) :: OwnS 1 ga gn gc gs :: R)) => (enL s.h).2.2.2.2.2.2.2
        refine wp_region_class_tail (fun w' => St W w' (row T 0 e1.cells :: TabE gp 0 4096 q :: row g 0 [ptrV gp, .int .i64 site, .int .i64 t2] :: OwnS 9 (some ⟨g3, o3, none⟩) n lc (ke2 gr) :: OwnS 1 ga gn gc gs :: R)) 7 (by kernel_rfl) (by kernel_rfl) (St.drew s6) ?_
        simp only [List.take_succ_cons, List.take_zero, List.drop_succ_cons, List.drop_zero]
        repeat (go_big_quiet_step (fail))
        clear hN_s7 p0_s7 k0_s7 eA_s7
        refine wpQuiet_nil ?_
        rintro ⟨w7, s7⟩
        dsimp only
        go_wp2_with (go_at_call 73; refine putE_old (v := e1) HA1.out HQN.out (by rw [HKE.out]; exact HA2.out) (St.pick 1 s7) ?_; rintro w8 s8)
        go_roundw
        case rel => exact ⟨i + 1, ga, gn, gc, gs, by omega, by go_num, rfl, hid (by omega), by
          have hst : (gr.take (i + 1)).foldl (gtick1 t2) gr = tput q e1.key e1 := by rw [HST.out, HAG.out, if_pos hb2, HKE.out, HE1.out.2.2]
          rw [hst]; exact (s8.perm [1]).drop⟩
        case measure => simp [intOf]; omega
      | false =>
        have hb2 : ¬ ag < t2 := of_decide_eq_false hb
        try simp only [Act.put, List.setIfInBounds_toArray, List.set_cons_succ, List.set_cons_zero]
        have hN6 : Nonempty (Cls (fun w' => St W w' (row T 0 e1.cells :: TabE gp 0 4096 q :: row g 0 [ptrV gp, .int .i64 site, .int .i64 t2] :: OwnS 9 (some ⟨g3, o3, none⟩) n lc (ke2 gr) :: OwnS 1 ga gn gc gs :: R))) := Cls.inh s5
        have f8 := fun s : Cls (fun w' => St W w' (row T 0 e1.cells :: TabE gp 0 4096 q :: row g 0 [ptrV gp, .int .i64 site, .int .i64 t2] :: OwnS 9 (some ⟨g3, o3, none⟩) n lc (ke2 gr) :: OwnS 1 ga gn gc gs :: R)) => (HAE.out ▸ (enL s.h).2.2.2.2.2.2.1 : (loadG 3 (.pointer (some ⟨T, 8, none⟩))).run Tryz.prog s.w = .ok (.int .i64 ag) s.w)
        have f2 := fun s : Cls (fun w' => St W w' (row T 0 e1.cells :: TabE gp 0 4096 q :: row g 0 [ptrV gp, .int .i64 site, .int .i64 t2] :: OwnS 9 (some ⟨g3, o3, none⟩) n lc (ke2 gr) :: OwnS 1 ga gn gc gs :: R)) => (graLd (St.pick 2 s.h)).2.2
        refine wp_region_class (fun w' => St W w' (row T 0 e1.cells :: TabE gp 0 4096 q :: row g 0 [ptrV gp, .int .i64 site, .int .i64 t2] :: OwnS 9 (some ⟨g3, o3, none⟩) n lc (ke2 gr) :: OwnS 1 ga gn gc gs :: R)) (by kernel_rfl) (by kernel_rfl) (St.drew s5) ?_
        repeat (go_big_quiet_step (fail))
        clear hN6 f8 f2
        refine wpQuiet_nil ?_
        rintro ⟨w6, s6⟩
        dsimp only
        go_wp2_with fail
        try simp only [Act.put, List.setIfInBounds_toArray, List.set_cons_succ, List.set_cons_zero]
        have hN_s7 : Nonempty (Cls (fun w' => St W w' (row T 0 e1.cells :: TabE gp 0 4096 q :: row g 0 [ptrV gp, .int .i64 site, .int .i64 t2] :: OwnS 9 (some ⟨g3, o3, none⟩) n lc (ke2 gr) :: OwnS 1 ga gn gc gs :: R))) := Cls.inh s6
        have p0_s7 := fun s : Cls (fun w' => St W w' (row T 0 e1.cells :: TabE gp 0 4096 q :: row g 0 [ptrV gp, .int .i64 site, .int .i64 t2] :: OwnS 9 (some ⟨g3, o3, none⟩) n lc (ke2 gr) :: OwnS 1 ga gn gc gs :: R)) => (graLd (St.pick 2 s.h)).1
        have k0_s7 := fun s : Cls (fun w' => St W w' (row T 0 e1.cells :: TabE gp 0 4096 q :: row g 0 [ptrV gp, .int .i64 site, .int .i64 t2] :: OwnS 9 (some ⟨g3, o3, none⟩) n lc (ke2 gr) :: OwnS 1 ga gn gc gs :: R)) => (enL s.h).1
        refine wp_region_class_tail (fun w' => St W w' (row T 0 e1.cells :: TabE gp 0 4096 q :: row g 0 [ptrV gp, .int .i64 site, .int .i64 t2] :: OwnS 9 (some ⟨g3, o3, none⟩) n lc (ke2 gr) :: OwnS 1 ga gn gc gs :: R)) 6 (by kernel_rfl) (by kernel_rfl) (St.drew s6) ?_
        simp only [List.take_succ_cons, List.take_zero, List.drop_succ_cons, List.drop_zero]
        repeat (go_big_quiet_step (fail))
        clear hN_s7 p0_s7 k0_s7
        refine wpQuiet_nil ?_
        rintro ⟨w7, s7⟩
        dsimp only
        go_wp2_with (first
          | (go_at_call 90; refine dropE_c HA1.out HQN.out (by rw [HKE.out]; exact HA2.out) (St.pick 1 s7) ?_; rintro w8 s8; have lk := (enL (St.pick 1 s8)).1
             have sG : St W _ (OwnS 1 ga gn gc gs :: TabE gp 0 4096 (tdel q e1.key) :: row T 0 e1.cells :: row g 0 [ptrV gp, .int .i64 site, .int .i64 t2] :: OwnS 9 (some ⟨g3, o3, none⟩) n lc (ke2 gr) :: R) := s8.perm [4]
             have sA : St W _ (row w8.heap.size 0 [.string e1.key] :: _) := sG.alloc #[.string e1.key] 9
             have sB := sA.perm [1]
             have rS : RdS _ 1 (some ⟨w8.heap.size, 0, none⟩) 1 1 [.string e1.key] := sA.rowRd rfl (by decide) (by simp [Value.oneCell']))
          | (at_builtin; go_loud (refine wpl_append rfl (.tmp 39) (.tmp 42) rfl Tryz.elem56 rfl rfl sB rS (by omega) (by unfold maxLen; omega) ?_; rintro a9 c9 w9 s9)))
        go_roundw
        case rel => exact ⟨i + 1, a9, gn + 1, c9, _, by omega, by go_num, rfl, hid (by omega), by
          have hst : (gr.take (i + 1)).foldl (gtick1 t2) gr = tdel q e1.key := by rw [HST.out, HAG.out, if_neg (by omega), HKE.out]
          rw [hst]; exact ((s9.perm [1, 2]).dropN 2).perm [1, 1, 1]⟩
        case measure => simp [intOf]; omega
    · have hie : i = n := by omega
      subst hie
      have hf : (gr.take i).foldl (gtick1 t2) gr = gr.foldl (gtick1 t2) gr := by rw [List.take_of_length_le (by rw [HN.out]; exact Nat.le_refl _)]
      rw [hf] at sr
      clear hf
      go_wp2_with fail
      exact HK.out _ _ (((sr.perm [2, 2]).dropN 2).perm [1])
end
end Go.Proofs.YtggbeedghblakaaGreatDoor
