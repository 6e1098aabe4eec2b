/- A mill with at most one rumor: keep, Heat, Hot, echo, Take of an echo. -/
import Derived.Test.YtpjdcijphnkioaaGreatDoorRumB
import Derived.Test.YtpjdcijphnkioaaGreatDoorTabX
import Derived.BigQuiet
namespace Go.Proofs.YtpjdcijphnkioaaGreatDoor
open Go.RowKit Go.Qd RepV

def bsMk (x : Value) : Sem Value := Instr.buildSlice 70 1 #[(0, x)]
theorem execOp_bsMk (ρ : Operand → Value) (dst : Option Tmp) (x : Operand) (ty : TypeId) (pos : String) (after : Array Edge) (guard : Option (Nat × Bool)) :
    execOp ρ { dst, op := .buildSlice 70 1 #[(0, x)], type := ty, pos, after, guard } = (do pure (.value (← bsMk (ρ x)))) := by simp [execOp, bsMk]
theorem run_bsMk (x : MkV) (w : World) : (bsMk (.agg x.cells.toArray)).run Tryz.prog w = .ok (.slice (some ⟨w.heap.size, 0, none⟩) 1 1) (w.alloc (.cells x.cells.toArray 77)) := by kernel_rfl
section
variable {W w : World} {R : List HP} {post : Ending → World → Prop} {c : List Int} {b rp dp : Nat}

set_option maxRecDepth 100000 in
set_option maxHeartbeats 4000000 in
theorem keep0_c {F : Nat} {v : Value} (hc : c.length = 20) (st : St W w (row b 0 (millC rp c dp none 0 0) :: R)) (K : ∀ w', St W w' (row b 0 (millC rp c dp none 0 0) :: R) → post (.returned (.tuple #[])) w') :
    Calls Tryz.prog 42 #[.pointer (some ⟨b, 0, none⟩), .func (.func F) #[] #[v]] w post := by
  have HK := hid K; clear K
  have s1 := st.alloc #[.func (.func F) #[] #[v]] 143
  obtain ⟨k0, k1, k2, k3⟩ := mill_at hc (St.pick 1 s1)
  have s2 := (St.pick 1 s1).rowSet (i := 22) (by rw [mill_len hc]; decide) (.slice none 0 0)
  rw [mill_set hc] at s2
  rw [Nat.zero_add] at s2
  have Hm : ∀ fn first cap w, (Instr.makeFunc fn first cap).run Tryz.prog w = .ok (.func fn first cap) w := fun _ _ _ _ => rfl
  clear hc
  go_enter Tryz.func42, Tryz.ntmps42
  go_wp2_with (go_at_call 81; refine delT0_c ?_)
  go_end0
  exact HK.out _ ((s2.pick 1).drop)

set_option maxRecDepth 100000 in
set_option maxHeartbeats 4000000 in
theorem keepDel_c {g o cp M : Nat} {x : TkV} (hc : c.length = 20) (hx : c.getD 15 0 ≤ x.n) (st : St W w (OwnS 4 (some ⟨g, o, none⟩) 1 cp x.cells :: row M 0 [.pointer (some ⟨b, 0, none⟩)] :: row b 0 (millC rp c dp (some ⟨g, o, none⟩) 1 cp) :: R))
    (K : ∀ w', St W w' (OwnS 4 (some ⟨g, o, none⟩) 0 cp [] :: row b 0 (millC rp c dp (some ⟨g, o, none⟩) 0 cp) :: R) → post (.returned (.tuple #[])) w') :
    Calls Tryz.prog 42 #[.pointer (some ⟨b, 0, none⟩), .func (.func 94) #[] #[.pointer (some ⟨M, 0, none⟩)]] w post := by
  have HK := hid K; clear K
  have s1 := st.alloc #[.func (.func 94) #[] #[.pointer (some ⟨M, 0, none⟩)]] 143
  have s2 : St W (w.alloc (.cells #[.func (.func 94) #[] #[.pointer (some ⟨M, 0, none⟩)]] 143)) (OwnS 4 (some ⟨g, o, none⟩) 1 cp x.cells :: sepL [row w.heap.size 0 [.func (.func 94) #[] #[.pointer (some ⟨M, 0, none⟩)]], sepL [row M 0 [.pointer (some ⟨b, 0, none⟩)], row b 0 (millC rp c dp (some ⟨g, o, none⟩) 1 cp)]] :: R) := by
    have t1 := (St.flat [row M 0 [.pointer (some ⟨b, 0, none⟩)], row b 0 (millC rp c dp (some ⟨g, o, none⟩) 1 cp)]).2 (s1.perm [2, 2])
    have t2 := (St.flat [row w.heap.size 0 [.func (.func 94) #[] #[.pointer (some ⟨M, 0, none⟩)]], sepL [row M 0 [.pointer (some ⟨b, 0, none⟩)], row b 0 (millC rp c dp (some ⟨g, o, none⟩) 1 cp)]]).2 (t1.pick 1)
    exact t2.pick 1
  obtain ⟨k0, k1, k2, k3⟩ := mill_at hc (St.pick 3 s1)
  have HC := hid hc
  have HX := hid hx
  have Hm : ∀ fn first cap w, (Instr.makeFunc fn first cap).run Tryz.prog w = .ok (.func fn first cap) w := fun _ _ _ _ => rfl
  clear hc hx
  go_enter Tryz.func42, Tryz.ntmps42
  go_wp2_with (go_at_call 81; refine delT1_c (keep1_no (echo2_no HC.out HX.out)) s2 ?_; rintro w3 s3
               have t1 := (St.flat [row w.heap.size 0 [.func (.func 94) #[] #[.pointer (some ⟨M, 0, none⟩)]], sepL [row M 0 [.pointer (some ⟨b, 0, none⟩)], row b 0 (millC rp c dp (some ⟨g, o, none⟩) 1 cp)]]).1 (s3.pick 1)
               have t2 : St W w3 (row b 0 (millC rp c dp (some ⟨g, o, none⟩) 1 cp) :: row M 0 [.pointer (some ⟨b, 0, none⟩)] :: row w.heap.size 0 [.func (.func 94) #[] #[.pointer (some ⟨M, 0, none⟩)]] :: OwnS 4 (some ⟨g, o, none⟩) 0 cp [] :: R) := ((St.flat [row M 0 [.pointer (some ⟨b, 0, none⟩)], row b 0 (millC rp c dp (some ⟨g, o, none⟩) 1 cp)]).1 (t1.pick 1)).pick 1
               obtain ⟨j0, j1, j2, j3⟩ := mill_at HC.out t2
               have s4 := t2.rowSet (i := 22) (by rw [mill_len HC.out]; decide) (.slice (some ⟨g, o, none⟩) 0 cp)
               rw [mill_set HC.out] at s4
               rw [Nat.zero_add] at s4)
  go_end0
  exact HK.out _ (((((s4.pick 3).pick 2).drop).pick 2).drop)

section
attribute [local go_sem ↓] execOp_ldEn execOp_bTk execOp_bsTk
attribute [local go_sem] run_bTk run_bsTk
set_option maxRecDepth 100000 in
set_option maxHeartbeats 8000000 in
theorem heat0_c {e : EnV} (hc : c.length = 20) (he : checkE e = 0) (hh : 1 ≤ c.getD 14 0) (st : St W w (row b 0 (millC rp c dp none 0 0) :: R))
    (K : ∀ a cp w', St W w' (OwnS 4 a 1 cp (TkV.cells ⟨e.mark, 0⟩) :: row b 0 (millC rp c dp a 1 cp) :: R) → post (.returned (.tuple #[])) w') :
    Calls Tryz.prog 16 #[.pointer (some ⟨b, 0, none⟩), .agg e.cells.toArray] w post := by
  have HK := hid K; clear K
  have HC := hid hc; have HE := hid he
  obtain ⟨z, hz⟩ : ∃ z, c.getD 14 0 = z := ⟨_, rfl⟩
  rw [hz] at hh
  have HZ := hid hz
  have dz : decide (z < 1) = false := decide_eq_false (by omega)
  have Hm : ∀ fn first cap w, (Instr.makeFunc fn first cap).run Tryz.prog w = .ok (.func fn first cap) w := fun _ _ _ _ => rfl
  have hb1 : (0 + 1) * 40 ≤ 140737488355328 := by decide
  have hm1 : 0 + 1 ≤ maxLen := by unfold maxLen; decide
  clear hc he hz hh
  go_enter Tryz.func16, Tryz.ntmps16
  go_upto_region 3 with (first
    | (refine wpl_boxA (vs := e.cells) rfl (.tmp 1) rfl rfl st ?_; rintro E w1 s1; have l0 := run_loadG agg_en (vs := e.cells) rfl s1.rowAll)
    | (go_at_call 41; refine check_c s1 ?_; rintro w2 s2; rw [HE.out])
    | (go_at_call 42; refine keep0_c HC.out (St.pick 1 s2) ?_; rintro w3 s3))
  try simp only [Act.put, List.setIfInBounds_toArray, List.set_cons_succ, List.set_cons_zero]
  go_cut [] (fun wx => ∃ a cp, St W wx (OwnS 4 a 1 cp (TkV.cells ⟨e.mark, 0⟩) :: row b 0 (millC rp c dp a 1 cp) :: R))
  case first =>
    have u := s3.drew
    have f0 := run_loadG agg_en (vs := e.cells) rfl (St.pick 1 u).rowAll
    obtain ⟨-, -, g2, g3⟩ := mill_at HC.out u
    go_region_law (first
      | (go_simp; go_at_call 44; refine emark_c u ?_; rintro w5 s5; have f5 := run_loadG agg_en (vs := e.cells) rfl (St.pick 1 s5).rowAll; obtain ⟨-, -, p2, p3⟩ := mill_at HC.out s5; have s6 := s5.alloc (TkV.cells ⟨e.mark, 0⟩).toArray 142; have r6 := St.rowRd (sz := 4) (n := 1) s6 rfl (by decide) (tk_one _); obtain ⟨-, -, q2, q3⟩ := mill_at HC.out (St.pick 1 s6); have s7 : St W _ (OwnS 4 none 0 0 [] :: _) := OwnS.none0 s6)
      | (refine step_append_st rfl (.tmp 14) (.tmp 18) rfl Tryz.elem118 rfl rfl s7 r6 hb1 hm1 ?_; rintro a8 c8 w8 s8; obtain ⟨-, -, r2, r3⟩ := mill_at HC.out (St.pick 2 s8)))
    all_goals
      go_wp2_with fail
      go_meet
      case rel =>
        have s9 := (St.pick 2 s8).rowSet (i := 22) (by rw [mill_len HC.out]; decide) (.slice a8 (0 + 1) c8)
        rw [mill_set HC.out] at s9
        rw [Nat.zero_add] at s9
        exact ⟨a8, c8, ((((s9.pick 1).pick 2).drop).pick 2).drop⟩
  case rest =>
  obtain ⟨a, cp, s9⟩ := hcut
  obtain ⟨-, -, r2, r3⟩ := mill_at HC.out (St.pick 1 s9)
  have r4 := mill_cfg HC.out (St.pick 1 s9) (i := 14) (by decide)
  rw [HZ.out] at r4
  simp only [Nat.reduceAdd] at r4
  go_wp2_with fail
  go_quiet (fail)
  go_wp2_with fail
  go_end0
  exact HK.out _ _ _ (s9.drewN nq)
end

set_option maxRecDepth 100000 in
set_option maxHeartbeats 4000000 in
theorem hot0_c {a : Option Addr} {cp : Nat} (hc : c.length = 20) (st : St W w (row b 0 (millC rp c dp a 0 cp) :: R)) (K : ∀ w', St W w' (row b 0 (millC rp c dp a 0 cp) :: R) → post (.returned (.slice none 0 0)) w') :
    Calls Tryz.prog 17 #[.pointer (some ⟨b, 0, none⟩)] w post := by
  have HK := hid K; clear K
  obtain ⟨k0, k1, k2, k3⟩ := mill_at hc st
  clear hc
  go_enter Tryz.func17, Tryz.ntmps17
  go_wp2_with fail
  go_loopw [3, 11] (fun oo ii wr => oo = .slice none 0 0 ∧ ii = .int .i64 0 ∧ wr = w) (fun _ _ _ => 0)
  case atStart => exact ⟨rfl, rfl, rfl⟩
  case round =>
    obtain ⟨rfl, rfl, rfl⟩ := hrel
    go_wp2_with fail
    exact HK.out _ st

section
attribute [local go_sem ↓] execOp_ldAny execOp_bsMk
attribute [local go_sem] run_bsMk
set_option maxRecDepth 100000 in
set_option maxHeartbeats 4000000 in
theorem hot1_c {a : Option Addr} {cp : Nat} {x : TkV} (hc : c.length = 20) (st : St W w (OwnS 4 a 1 cp x.cells :: row b 0 (millC rp c dp a 1 cp) :: R)) (K : ∀ ao c' w', St W w' (OwnS 4 a 1 cp x.cells :: row b 0 (millC rp c dp a 1 cp) :: R) → post (.returned (.slice ao 1 c')) w') :
    Calls Tryz.prog 17 #[.pointer (some ⟨b, 0, none⟩)] w post := by
  have HK := hid K; clear K
  obtain ⟨g, o, rfl⟩ := (OwnS.rd st).addr (by decide)
  have l2 := run_ldP (t := 118) (by kernel_rfl) (mill_at hc (St.pick 1 st)).2.2.1
  have l0 := run_loadG agg_tk (vs := x.cells) rfl (fun j u hu => (OwnS.rd st).at hu)
  clear hc
  go_enter Tryz.func17, Tryz.ntmps17
  go_wp2_with fail
  go_loopw [3, 11] (fun oo ii wr => ∃ i : Nat, ∃ ao cc, i ≤ 1 ∧ oo = .slice ao i cc ∧ ii = .int .i64 i ∧ Hid (i = 0 → wr = w) ∧ St W wr (OwnS 3 ao i cc (List.replicate i x.m.cells).flatten :: OwnS 4 (some ⟨g, o, none⟩) 1 cp x.cells :: row b 0 (millC rp c dp (some ⟨g, o, none⟩) 1 cp) :: R)) (fun _ ii _ => 1 - (intOf ii).toNat)
  case atStart => exact ⟨0, none, 0, by decide, rfl, rfl, hid (fun _ => rfl), OwnS.none0 st⟩
  case round =>
    obtain ⟨i, ao, cc, hi, rfl, rfl, hw, sr⟩ := hrel
    match i, hi with
    | 0, _ =>
      have hwr := hw.out rfl
      subst hwr
      have hb1 : (0 + 1) * 32 ≤ 140737488355328 := by decide
      have hm1 : 0 + 1 ≤ maxLen := by unfold maxLen; decide
      clear hw
      go_wp2_with (first
        | (refine wpl_allocA (vs := [.int .i64 0, .int .i64 0, .string ByteArray.empty, .int .i64 0]) rfl rfl (fun _ => by kernel_rfl) sr ?_; rintro T w2 s2)
        | (refine wpl_storeA (vs := x.cells) rfl (.tmp 5) (.tmp 14) (by rfl) agg_tk (by rfl) (by rfl) rfl (tk_one _) s2 rfl ?_; rintro w3 s3; have l1 := run_loadG agg54 (vs := x.m.cells) rfl (St.rowPart s3 0 (xs := x.m.cells) (ys := [.int .i64 x.n]) rfl); have s4 := s3.alloc x.m.cells.toArray 77; have r4 := St.rowRd (sz := 3) (n := 1) s4 rfl (by decide) (mk_one x.m); have s5 := St.pick 2 s4)
        | (at_builtin; refine wpl_append rfl (.tmp 15) (.tmp 18) rfl Tryz.elem70 rfl rfl s5 r4 hb1 hm1 ?_; rintro a8 c8 w8 s8))
      go_roundw
      case rel => exact ⟨1, a8, c8, by decide, rfl, by go_num, hid (fun h => by cases h), by have := (((s8.pick 1).drop).pick 1).drop; exact this⟩
      case measure => simp [intOf]
    | 1, _ =>
      clear hw
      go_wp2_with fail
      exact HK.out _ _ _ sr.drop
end
end
end Go.Proofs.YtpjdcijphnkioaaGreatDoor
