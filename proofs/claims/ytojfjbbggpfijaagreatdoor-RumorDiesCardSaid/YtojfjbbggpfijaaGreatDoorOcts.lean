/- Octs: several texts, joined. Writers of bytes: Concat, put, Number, Flag, Text, Raw, Bytes, Err. -/
import Derived.Test.YtojfjbbggpfijaaGreatDoorTabX
import Derived.Test.YtojfjbbggpfijaaGreatDoorKeys
import Derived.Test.YtojfjbbggpfijaaGreatDoorLibR
import Derived.Deep.RegionLaw
import Derived.Test.YtojfjbbggpfijaaGreatDoorClks
import Derived.Deep.DeepCutAuto
namespace Go.Proofs.YtojfjbbggpfijaaGreatDoor
open Go.RowKit Go.Qd

/-- A part: a slice, and its bytes. -/
structure PtV where
  a : Option Addr
  n : Nat
  c : Nat
  bs : List UInt8
def PtV.cell (x : PtV) : Value := .slice x.a x.n x.c
def ptLen (ps : List PtV) : Nat := (ps.map (·.n)).sum
def ptBs (ps : List PtV) : List UInt8 := (ps.map (·.bs)).flatten
theorem ptLen_take {ps : List PtV} {i : Nat} (h : i < ps.length) : ptLen (ps.take (i + 1)) = ptLen (ps.take i) + ps[i].n := by
  unfold ptLen; rw [List.take_succ_eq_append_getElem h]; simp only [List.map_append, List.sum_append, List.map_cons, List.map_nil, List.sum_cons, List.sum_nil, Nat.add_zero]
theorem ptBs_take {ps : List PtV} {i : Nat} (h : i < ps.length) : ptBs (ps.take (i + 1)) = ptBs (ps.take i) ++ ps[i].bs := by
  unfold ptBs; rw [List.take_succ_eq_append_getElem h]; simp only [List.map_append, List.flatten_append, List.map_cons, List.map_nil, List.flatten_cons, List.flatten_nil, List.append_nil]
theorem ptLen_le {ps : List PtV} (i : Nat) : ptLen (ps.take i) ≤ ptLen ps := by
  have : ps = ps.take i ++ ps.drop i := (List.take_append_drop _ _).symm
  conv => rhs; rw [this]
  unfold ptLen; rw [List.map_append, List.sum_append]; omega

section
variable {W w : World} {R : List HP} {post : Ending → World → Prop}
end
set_option maxRecDepth 100000 in
/-- slices.Grow of nil. -/
theorem growU_c {W w : World} {R : List HP} {post : Ending → World → Prop} {n : Nat} (st : St W w R) (hb : n * 1 ≤ 140737488355328) (hm : n ≤ maxLen)
    (K : ∀ ao' c' w', St W w' (OwnS 1 ao' 0 c' [] :: R) → post (.returned (.slice ao' 0 c')) w') : Calls Tryz.prog 237 #[.slice none 0 0, .int .i64 n] w post := by
  have HK := hid K; clear K
  have hmax' := hm
  unfold maxLen at hmax'
  rcases Nat.eq_zero_or_pos n with h | h
  · subst h
    go_enter Tryz.func237, Tryz.ntmps237
    go_wp2
    exact HK.out none 0 w (OwnS.none0 st)
  · obtain ⟨g, c', w1, zs, hrun, s1, hzl, hc1, hc2⟩ := run_append_zeros_st Tryz.elem163 Tryz.underlying3 163 st (RdS.none0 w 1) (k := n) h (by omega) (by rw [Nat.zero_add]; exact hb) (by rw [Nat.zero_add]; exact hm)
    rw [Nat.zero_add] at hrun hc1
    have e1 := run_slice_to Tryz.elem163 none 0 0 0 (Nat.le_refl _)
    have e2 := run_slice_to Tryz.elem163 (some ⟨g, 0, none⟩) n c' 0 (Nat.zero_le _)
    have s2 : St W w1 (OwnS 1 (some ⟨g, 0, none⟩) 0 c' [] :: R) := OwnS.close (sp := zs) ⟨by simp, by rw [hzl], Nat.zero_le _, hc2, by simp, fun _ => ⟨_, _, rfl⟩, fun _ h => (by cases h)⟩ (by rw [List.nil_append] at s1 ⊢; exact s1)
    have HZL := hid hzl
    clear hzl s1
    go_enter Tryz.func237, Tryz.ntmps237
    go_wp2_with (at_builtin; refine Lib.wpList_append_run _ rfl (.tmp 20) (.tmp 21) 163 3 rfl _ _ rfl rfl _ _ hrun ?_)
    exact HK.out _ _ _ s2


section
variable {W w : World} {R : List HP} {post : Ending → World → Prop}
set_option maxRecDepth 100000 in
set_option maxHeartbeats 2000000 in
/-- slices.Concat of parts. -/
theorem concat_c {ao : Option Addr} {m c : Nat} {ps : List PtV} (hp : Rds W R 1 ao m c (ps.map PtV.cell)) (hq : ∀ x ∈ ps, Rds W R 1 x.a x.n x.c (byC x.bs)) (hb : ptLen ps ≤ 140737488355328) (hm : ps.length ≤ 4096) (st : St W w R)
    (K : ∀ a' c' w', St W w' (OwnS 1 a' (ptLen ps) c' (byC (ptBs ps)) :: R) → post (.returned (.slice a' (ptLen ps) c')) w') :
    Calls Tryz.prog 233 #[.slice ao m c] w post := by
  have HK := hid K; clear K
  have hl : ps.length = m := by have := (hp w st).len; simpa using this
  have HL := hid hl
  rw [hl] at hm
  clear hl
  have HB := hid hb
  have hb0 : ptLen ps ≤ 140737488355328 := hb
  clear hb
  go_enter Tryz.func233, Tryz.ntmps233
  go_wp2_with fail
  go_loopw [3, 11] (fun sv ii wr => ∃ i : Nat, i ≤ m ∧ ii = .int .i64 i ∧ sv = .int .i64 (ptLen (ps.take i) : Nat) ∧ wr = w) (fun _ ii _ => m - (intOf ii).toNat)
  case atStart => exact ⟨0, Nat.zero_le _, rfl, rfl, rfl⟩
  case round =>
    obtain ⟨i, hi, rfl, rfl, rfl⟩ := hrel
    by_cases hlt : i < m
    · have hiA : i < ps.length := by rw [HL.out]; exact hlt
      have rd := hp _ st
      obtain ⟨g, o, rfl⟩ := rd.addr (by omega)
      have hc := rd.at (i := i) (u := (ps[i]).cell) (by rw [List.getElem?_map, List.getElem?_eq_getElem hiA]; rfl)
      have HS := hid (ptLen_take hiA)
      have h1 := ptLen_le (ps := ps) (i + 1)
      obtain ⟨x, hx⟩ : ∃ x, ps[i] = x := ⟨_, rfl⟩
      rw [hx] at hc HS
      have e1 := HS.out
      obtain ⟨t, ht⟩ : ∃ t, ptLen (ps.take i) = t := ⟨_, rfl⟩
      obtain ⟨t', ht'⟩ : ∃ t, ptLen (ps.take (i + 1)) = t := ⟨_, rfl⟩
      rw [ht, ht'] at e1
      rw [ht'] at h1
      have HT' := hid ht'
      rw [ht]
      clear ht ht' hx rd HS
      have hw : IntKind.i64.wrap ((t : Int) + (x.n : Int)) = (t : Int) + (x.n : Int) := IntWalk.i64_in _ (by omega)
      have hneg : decide ((t : Int) + (x.n : Int) < 0) = false := decide_eq_false (by omega)
      have hi2 : (i : Int) < (m : Int) := by omega
      simp only [PtV.cell] at hc
      clear hiA
      go_wp2_with fail
      go_roundw
      case rel => exact ⟨i + 1, by omega, by go_num, by rw [HT'.out, e1]; go_num, by trivial⟩
      case measure => simp [intOf]; omega
    · have hie : i = m := by omega
      subst hie
      have hfull : ptLen (ps.take i) = ptLen ps := by rw [List.take_of_length_le (by rw [HL.out]; exact Nat.le_refl _)]
      rw [hfull]
      have HF := hid hfull
      clear hfull
      obtain ⟨t, ht⟩ : ∃ t, ptLen ps = t := ⟨_, rfl⟩
      have HT := hid ht
      rw [ht] at hb0
      rw [ht]
      clear ht
      go_wp2_with (go_at_call 237; refine growU_c st (by omega) (by unfold maxLen; omega) ?_; rintro a1 c1 w1 s1)
      have hz : ptBs (ps.take 0) = [] := rfl
      go_loopw [6, 27] (fun sv ii wr => ∃ (j : Nat) (a' : Option Addr) (n' c' : Nat), j ≤ i ∧ ii = .int .i64 j ∧ sv = .slice a' n' c' ∧ Hid (n' = ptLen (ps.take j)) ∧ St W wr (OwnS 1 a' n' c' (byC (ptBs (ps.take j))) :: R)) (fun _ ii _ => i - (intOf ii).toNat)
      case atStart => exact ⟨0, a1, 0, c1, Nat.zero_le _, rfl, rfl, hid rfl, s1⟩
      case round =>
        obtain ⟨j, a2, n2, c2, hj, rfl, rfl, hn2, sr⟩ := hrel
        by_cases hlt2 : j < i
        · have hjA : j < ps.length := by rw [HL.out]; exact hlt2
          have rd := hp _ sr.drop
          obtain ⟨g, o, rfl⟩ := rd.addr (by omega)
          have hc := rd.at (i := j) (u := (ps[j]).cell) (by rw [List.getElem?_map, List.getElem?_eq_getElem hjA]; rfl)
          have HS := hid (ptLen_take hjA); have HS2 := hid (ptBs_take hjA)
          have h1 := ptLen_le (ps := ps) (j + 1)
          have hqx := hq _ (List.getElem_mem hjA)
          obtain ⟨x, hx⟩ : ∃ x, ps[j] = x := ⟨_, rfl⟩
          rw [hx] at hc HS HS2 hqx
          have rx := hqx _ sr.drop
          have hbd : n2 + x.n ≤ 140737488355328 := by rw [hn2.out, ← HS.out]; have := HT.out; omega
          have hbm : n2 + x.n ≤ maxLen := by unfold maxLen; omega
          simp only [PtV.cell] at hc
          have hj2 : (j : Int) < (i : Int) := by omega
          clear hx rd hjA h1 hqx
          go_wp2_with (at_builtin; refine wpl_append rfl (.tmp 31) (.tmp 32) rfl Tryz.elem163 rfl rfl sr rx (by omega) hbm ?_; rintro a3 c3 w3 s3; rw [← byC_app, ← HS2.out] at s3)
          go_roundw
          case rel => exact ⟨j + 1, a3, _, c3, by omega, by go_num, rfl, hid (by rw [hn2.out, HS.out]), s3⟩
          case measure => simp [intOf]; omega
        · have hje : j = i := by omega
          subst hje
          rw [List.take_of_length_le (by rw [HL.out]; exact Nat.le_refl _)] at sr hn2
          have e : n2 = t := by rw [hn2.out]; exact HT.out
          subst e
          have HK3 := hid (HK.out a2 c2 _ (by rw [HT.out]; exact sr))
          rw [HT.out] at HK3
          go_wp2_with fail
          exact HK3.out

/-- A writer: what was put. -/
def WrA (b : Nat) (out : List UInt8) : HP := fun h => ∃ x : Option Addr × Nat × Nat, sepL [row b 0 [.slice x.1 x.2.1 x.2.2, .int .i64 0], OwnS 1 x.1 x.2.1 x.2.2 (byC out)] h
theorem WrA.open {b : Nat} {out : List UInt8} (st : St W w (WrA b out :: R)) : ∃ ao n c, St W w (row b 0 [.slice ao n c, .int .i64 0] :: OwnS 1 ao n c (byC out) :: R) := by
  obtain ⟨x, s⟩ := St.ex (F := fun (x : Option Addr × Nat × Nat) h => sepL [row b 0 [.slice x.1 x.2.1 x.2.2, .int .i64 0], OwnS 1 x.1 x.2.1 x.2.2 (byC out)] h) st
  exact ⟨_, _, _, (St.flat _).1 s⟩
theorem WrA.close {b : Nat} {out : List UInt8} {ao : Option Addr} {n c : Nat} (st : St W w (row b 0 [.slice ao n c, .int .i64 0] :: OwnS 1 ao n c (byC out) :: R)) : St W w (WrA b out :: R) :=
  ((St.flat [row b 0 [.slice ao n c, .int .i64 0], OwnS 1 ao n c (byC out)]).2 st).imp fun _ x => ⟨(ao, n, c), x⟩
theorem rowTwo0 {b : Nat} {x y : Value} (s : St W w (row b 0 [x, y] :: R)) : w.cell? ⟨b, 0, none⟩ = some x ∧ w.cell? ⟨b, 1, none⟩ = some y ∧ w.frozen? ⟨b, 0, none⟩ = false ∧ w.frozen? ⟨b, 1, none⟩ = false :=
  ⟨s.rowCell (i := 0) rfl, by have := s.rowCell (i := 1) rfl; rwa [Nat.zero_add] at this, s.rowFree (i := 0) (by simp), by have := s.rowFree (i := 1) (by simp); rwa [Nat.zero_add] at this⟩

set_option maxRecDepth 100000 in
set_option maxHeartbeats 4000000 in
theorem wput_c {b : Nat} {out : List UInt8} {ao : Option Addr} {m c : Nat} {ps : List PtV} (hp : Rds W R 1 ao m c (ps.map PtV.cell)) (hq : ∀ x ∈ ps, Rds W R 1 x.a x.n x.c (byC x.bs)) (hb : ptLen ps ≤ 1048576) (ho : out.length ≤ 1048576) (hm : ps.length ≤ 4096)
    (st : St W w (WrA b out :: R)) (K : ∀ w', St W w' (WrA b (out ++ ptBs ps) :: R) → post (.returned (.pointer (some ⟨b, 0, none⟩))) w') :
    Calls Tryz.prog 227 #[.pointer (some ⟨b, 0, none⟩), .slice ao m c] w post := by
  have HK := hid K; clear K
  obtain ⟨a0, n0, c0, s⟩ := WrA.open st
  have hn0 : n0 = out.length := by have := (OwnS.rd (St.pick 1 s)).len; rw [byC_len] at this; omega
  have hbd : (n0 + ptLen ps) * 1 ≤ 140737488355328 := by omega
  have hbm : n0 + ptLen ps ≤ maxLen := by unfold maxLen; omega
  have HB := hid (show ptLen ps ≤ 140737488355328 by omega)
  clear hn0 hb ho
  obtain ⟨g0, g1, f0, f1⟩ := rowTwo0 s
  obtain ⟨d0, d1, e0, e1⟩ := rowTwo0 s.drew
  go_enter Tryz.func227, Tryz.ntmps227
  go_wp2_with fail
  go_region_law (first
    | (go_simp; go_at_call 233; refine concat_c hp.cons.cons (fun x hx => (hq x hx).cons.cons) HB.out hm s.drew ?_; rintro a3 c3 w3 s3; obtain ⟨k0, k1, l0, l1⟩ := rowTwo0 (St.pick 1 s3); have rx := OwnS.rd s3; have s4 := St.pick 2 s3)
    | (refine step_append_st rfl (.tmp 15) (.tmp 17) rfl Tryz.elem163 rfl rfl s4 rx hbd hbm ?_; rintro a5 c5 w5 s5; rw [← byC_app] at s5; obtain ⟨k0, k1, l0, l1⟩ := rowTwo0 (St.pick 2 s5)))
  all_goals
    go_wp2_with fail
    have s6 := (St.pick 2 s5).rowSet (i := 0) (by simp) (.slice a5 (n0 + ptLen ps) c5)
    exact HK.out _ (WrA.close ((s6.perm [2]).drop.perm [0]))
end
end Go.Proofs.YtojfjbbggpfijaaGreatDoor

/- Writers of bytes: Number, Flag, Text, Raw, Bytes, Err. -/
namespace Go.Proofs.YtojfjbbggpfijaaGreatDoor
open Go.RowKit Go.Qd

theorem pt_one (ps : List PtV) : ∀ u ∈ ps.map PtV.cell, u.oneCell' = true := by
  intro u hu; obtain ⟨x, _, rfl⟩ := List.mem_map.1 hu; rfl
theorem pow256 (k : Nat) : (2 : Nat) ^ (8 * k) = 256 ^ k := by rw [Nat.pow_mul]
theorem leB_succ (v i : Nat) : leB v (i + 1) = leB v i ++ [UInt8.ofNat (v / 256 ^ i)] := by unfold leB; rw [List.range_succ, List.map_append]; rfl
/-- The cells of a room of eight bytes, of which some are laid. -/
def roomC (v i : Nat) : List Value := byC (leB v i) ++ List.replicate (8 - i) (.int .u8 0)
theorem roomC_len {v i : Nat} (h : i ≤ 8) : (roomC v i).length = 8 := by unfold roomC; rw [List.length_append, byC_len, leB_len, List.length_replicate]; omega
theorem roomC_set {v i : Nat} (h : i < 8) : (roomC v i).set i (.int .u8 ((v / 256 ^ i % 256 : Nat) : Int)) = roomC v (i + 1) := by
  unfold roomC
  have hl : (byC (leB v i)).length = i := by rw [byC_len, leB_len]
  rw [List.set_append_right _ _ (by omega), hl, Nat.sub_self, leB_succ, byC_app, List.append_assoc]
  congr 1
  rw [show 8 - i = (8 - (i + 1)) + 1 from by omega, List.replicate_succ, List.set_cons_zero]
  show _ = byC _ ++ _
  simp [byC]

theorem slice_room {T i : Nat} (h1 : 1 ≤ i) (h : i ≤ 8) (w : World) : (Instr.sliceAt 355 (Value.pointer (some ⟨T, 0, none⟩)) none (some (Value.int .i64 i)) (some (Value.int .i64 i))).run Tryz.prog w = .ok (.slice (some ⟨T, 0, none⟩) i i) w := by
  have hu := Tryz.underlying355
  have hs : (sizeOf 5).run Tryz.prog w = .ok 1 w := by kernel_rfl
  have hz : ¬ i = 0 := by omega
  have hb : ∀ (cap : Nat) (code : BoundsCode), i ≤ cap → (Instr.sliceBound (Value.int .i64 (i : Int)) cap code).run Tryz.prog w = .ok i w := fun cap code hc => by
    rw [run_sliceBound]
    · simp
    · omega
    · omega
  have ha : (⟨T, 0, none⟩ : Addr).add 0 = ⟨T, 0, none⟩ := add_plain' T 0 0
  simp [Instr.sliceAt, Instr.sureAddr, run_underlying hu, Instr.sliceBounds, hb _ _ h, hb _ _ (Nat.le_refl i), hs, ha, Result.andThen]

section
variable {W w : World} {R : List HP} {post : Ending → World → Prop}

theorem fits_c {v k : Nat} (hk : 1 ≤ k ∧ k ≤ 7) (hv : v < 256 ^ k) (K : post (.returned (.bool true)) w) : Calls Tryz.prog 228 #[.int .u64 v, .int .i64 k] w post := by
  have HK := hid K; clear K
  go_enter Tryz.func228, Tryz.ntmps228
  have h8 : ((k : Int) == 8) = false := by simp; omega
  have hw : IntKind.i64.wrap (8 * (k : Int)) = 8 * (k : Int) := IntWalk.i64_in _ (by omega)
  have hz : ((v : Int) / 2 ^ (8 * k) == 0) = true := by
    have : ((v : Int) / 2 ^ (8 * k)) = ((v / 256 ^ k : Nat) : Int) := by rw [← pow256]; push_cast; rfl
    rw [this, Nat.div_eq_of_lt hv]; rfl
  go_wp2_with fail
  exact HK.out

set_option maxRecDepth 100000 in
set_option maxHeartbeats 4000000 in
theorem wnumber_c {b : Nat} {out : List UInt8} {v k : Nat} (hk : 1 ≤ k ∧ k ≤ 7) (hv : v < 256 ^ k) (ho : out.length ≤ 1000000) (st : St W w (WrA b out :: R))
    (K : ∀ w', St W w' (WrA b (out ++ leB v k) :: R) → post (.returned (.pointer (some ⟨b, 0, none⟩))) w') :
    Calls Tryz.prog 207 #[.pointer (some ⟨b, 0, none⟩), .int .u64 v, .int .i64 k] w post := by
  have HK := hid K; clear K
  have h1 : decide ((k : Int) < 1) = false := decide_eq_false (by omega)
  have h8 : decide (8 < (k : Int)) = false := decide_eq_false (by omega)
  have HV := hid hv
  clear hv
  go_enter Tryz.func207, Tryz.ntmps207
  go_wp2_with (first
    | (refine wpl_allocA (vs := roomC v 0) rfl rfl (fun w => by kernel_rfl) st ?_; rintro T w1 s1)
    | (go_at_call 228; refine fits_c hk HV.out ?_))
  go_loopw [10] (fun ii wr => ∃ i : Nat, i ≤ k ∧ ii = .int .i64 i ∧ St W wr (row T 0 (roomC v i) :: WrA b out :: R)) (fun ii _ => k - (intOf ii).toNat)
  case atStart => exact ⟨0, Nat.zero_le _, rfl, s1⟩
  case round =>
    obtain ⟨i, hi, rfl, sr⟩ := hrel
    by_cases hlt : i < k
    · have hi8 : i < 8 := by omega
      have hw : IntKind.i64.wrap (8 * (i : Int)) = 8 * (i : Int) := IntWalk.i64_in _ (by omega)
      have hlen : i < (roomC v i).length := by rw [roomC_len (by omega)]; exact hi8
      have hc := sr.rowCell (List.getElem?_eq_getElem hlen)
      have hf := sr.rowFree hlen
      have hsx := sr.rowSet hlen (.int .u8 ((v / 256 ^ i % 256 : Nat) : Int))
      rw [roomC_set hi8] at hsx
      rw [Nat.zero_add] at hc hf hsx
      generalize (roomC v i)[i] = u at hc
      clear hlen
      have hi2 : (i : Int) < (k : Int) := by omega
      have e : ((v / 256 ^ i % 256 : Nat) : Int) = (v : Int) / 2 ^ (8 * i) % 256 := by rw [← pow256]; push_cast; rfl
      rw [e] at hsx
      go_wp2_with fail
      go_roundw
      case rel => exact ⟨i + 1, by omega, by go_num, hsx⟩
      case measure => simp [intOf]; omega
    · have hie : i = k := by omega
      subst hie
      have s2 := sr.alloc #[.slice (some ⟨T, 0, none⟩) i i] 163
      have hp : Rds W (row wr.heap.size 0 [Value.slice (some ⟨T, 0, none⟩) i i] :: row T 0 (roomC v i) :: R) 1 (some ⟨wr.heap.size, 0, none⟩) 1 1 ([(⟨some ⟨T, 0, none⟩, i, i, leB v i⟩ : PtV)].map PtV.cell) :=
        fun w' s' => St.rowRd s' rfl (by decide) (pt_one _)
      have hq : ∀ x ∈ [(⟨some ⟨T, 0, none⟩, i, i, leB v i⟩ : PtV)], Rds W (row wr.heap.size 0 [Value.slice (some ⟨T, 0, none⟩) i i] :: row T 0 (roomC v i) :: R) 1 x.a x.n x.c (byC x.bs) := fun x hx w' s' => by
        rw [List.mem_singleton] at hx; subst hx
        exact St.rowRd (St.rowAppend.1 (St.pick 1 s')) (by rw [byC_len, leB_len, Nat.mul_one]) (show i ≤ maxLen by unfold maxLen; omega) (byC_one _)
      have s3 : St W _ (WrA b out :: row wr.heap.size 0 [Value.slice (some ⟨T, 0, none⟩) i i] :: row T 0 (roomC v i) :: R) := St.pick 2 s2
      have HK2 := hid (fun w' (s' : St W w' (WrA b (out ++ leB v i) :: row wr.heap.size 0 [Value.slice (some ⟨T, 0, none⟩) i i] :: row T 0 (roomC v i) :: R)) => HK.out w' ((s'.perm [1, 1]).dropN 2))
      have hsl := slice_room (T := T) (i := i) (by omega) (by omega) wr
      go_wp2_with (go_at_call 227; go_loud (refine wput_c hp hq (by show i + 0 ≤ _; omega) (by omega) (by show 1 ≤ 4096; decide) s3 ?_; rintro w5 s5; have s6 : St W w5 (WrA b (out ++ leB v i) :: row wr.heap.size 0 [Value.slice (some ⟨T, 0, none⟩) i i] :: row T 0 (roomC v i) :: R) := (by simpa [ptBs] using s5)))
      exact HK2.out _ s6

theorem wflag_c {b : Nat} {out : List UInt8} {f : Bool} (ho : out.length ≤ 1000000) (st : St W w (WrA b out :: R))
    (K : ∀ w', St W w' (WrA b (out ++ flagB f) :: R) → post (.returned (.pointer (some ⟨b, 0, none⟩))) w') :
    Calls Tryz.prog 206 #[.pointer (some ⟨b, 0, none⟩), .bool f] w post := by
  have HK := hid K; clear K
  cases f with
  | true =>
    go_enter Tryz.func206, Tryz.ntmps206
    go_wp2_with (go_at_call 207; refine wnumber_c (v := 1) (k := 1) (by decide) (by decide) ho st ?_; rintro w1 s1)
    exact HK.out _ s1
  | false =>
    go_enter Tryz.func206, Tryz.ntmps206
    go_wp2_with (go_at_call 207; refine wnumber_c (v := 0) (k := 1) (by decide) (by decide) ho st ?_; rintro w1 s1)
    exact HK.out _ s1

theorem wbytes_c {b : Nat} {out : List UInt8} (ho : out.length ≤ 1048576) (st : St W w (WrA b out :: R))
    (K : ∀ a n c w', n = out.length → St W w' (OwnS 1 a n c (byC out) :: WrA b out :: R) → post (.returned (.slice a n c)) w') :
    Calls Tryz.prog 182 #[.pointer (some ⟨b, 0, none⟩)] w post := by
  have HK := hid K; clear K
  obtain ⟨a0, n0, c0, s⟩ := WrA.open st
  have hn0 : n0 = out.length := by have := (OwnS.rd (St.pick 1 s)).len; rw [byC_len] at this; omega
  have HN := hid hn0
  have hbd : n0 * 1 ≤ 140737488355328 := by omega
  clear hn0 ho
  obtain ⟨g0, g1, f0, f1⟩ := rowTwo0 s
  go_enter Tryz.func182, Tryz.ntmps182
  go_wp2_with (go_at_call 157; refine cloneU_c s (OwnS.rd (St.pick 1 s)) hbd ?_; rintro a1 c1 w1 s1)
  exact HK.out _ _ _ _ HN.out ((WrA.close (s1.perm [1, 1])).pick 1)

theorem werr_c {b : Nat} {out : List UInt8} (st : St W w (WrA b out :: R)) (K : post (.returned (.int .i64 0)) w) :
    Calls Tryz.prog 183 #[.pointer (some ⟨b, 0, none⟩)] w post := by
  have HK := hid K; clear K
  obtain ⟨a0, n0, c0, s⟩ := WrA.open st
  obtain ⟨g0, g1, f0, f1⟩ := rowTwo0 s
  go_enter Tryz.func183, Tryz.ntmps183
  go_wp2
  exact HK.out

theorem wraw_c {b : Nat} {out : List UInt8} {ao : Option Addr} {m c : Nat} {ps : List PtV} (hp : Rds W R 1 ao m c (ps.map PtV.cell)) (hq : ∀ x ∈ ps, Rds W R 1 x.a x.n x.c (byC x.bs)) (hb : ptLen ps ≤ 1048576) (ho : out.length ≤ 1048576) (hm : ps.length ≤ 4096)
    (st : St W w (WrA b out :: R)) (K : ∀ w', St W w' (WrA b (out ++ ptBs ps) :: R) → post (.returned (.pointer (some ⟨b, 0, none⟩))) w') :
    Calls Tryz.prog 208 #[.pointer (some ⟨b, 0, none⟩), .slice ao m c] w post := by
  have HK := hid K; clear K
  go_enter Tryz.func208, Tryz.ntmps208
  go_wp2_with (go_at_call 227; refine wput_c hp hq hb ho hm st ?_; rintro w1 s1)
  exact HK.out _ s1

set_option maxRecDepth 100000 in
set_option maxHeartbeats 4000000 in
theorem wtext_c {b : Nat} {out : List UInt8} {x : ByteArray} (hx : x.size ≤ 255) (ho : out.length ≤ 1000000) (st : St W w (WrA b out :: R))
    (K : ∀ w', St W w' (WrA b (out ++ txtB x) :: R) → post (.returned (.pointer (some ⟨b, 0, none⟩))) w') :
    Calls Tryz.prog 205 #[.pointer (some ⟨b, 0, none⟩), .string x] w post := by
  have HK := hid K; clear K
  have h1 : decide (255 < (x.size : Int)) = false := decide_eq_false (by omega)
  have hm : (x.size : Int) % 256 = x.size := by omega
  have s1 := st.alloc #[.int .u8 x.size] 5
  have s2 := s1.strBytes 5 x (by unfold maxLen; omega)
  have hcv := Lib.run_convert_string_bytes (P := Tryz.prog) (w.alloc (.cells #[.int .u8 x.size] 5)) 9 163 5 x Tryz.underlying9 Tryz.underlying163 Tryz.underlying5
  have hsz : (w.alloc (.cells #[.int .u8 x.size] 5)).heap.size = w.heap.size + 1 := by simp
  rw [hsz] at s2 hcv
  obtain ⟨cp, hcp⟩ : ∃ cp, grownCap (w.alloc (.cells #[.int .u8 x.size] 5)) x.size 0 5 = cp := ⟨_, rfl⟩
  rw [hcp] at s2 hcv
  have s3 := s2.alloc #[.slice (some ⟨w.heap.size, 0, none⟩) 1 1, .slice (some ⟨w.heap.size + 1, 0, none⟩) x.size cp] 163
  have hb1 : byC [UInt8.ofNat x.size] = [.int .u8 x.size] := by
    simp only [byC, List.map_cons, List.map_nil]
    rw [UInt8.toNat_ofNat']
    have : x.size % 2 ^ 8 = x.size := by omega
    rw [this]
  clear hsz hcp
  generalize hw4 : Lib.bytesWorld (w.alloc (.cells #[.int .u8 x.size] 5)) 5 x = w4 at s2 s3 hcv
  have HW := hid hw4
  clear hw4
  obtain ⟨ps, hps⟩ : ∃ ps : List PtV, ps = [⟨some ⟨w.heap.size, 0, none⟩, 1, 1, [UInt8.ofNat x.size]⟩, ⟨some ⟨w.heap.size + 1, 0, none⟩, x.size, cp, x.data.toList⟩] := ⟨_, rfl⟩
  have hp : Rds W (row w4.heap.size 0 [Value.slice (some ⟨w.heap.size, 0, none⟩) 1 1, .slice (some ⟨w.heap.size + 1, 0, none⟩) x.size cp] :: OwnS 1 (some ⟨w.heap.size + 1, 0, none⟩) x.size cp (byC x.data.toList) :: row w.heap.size 0 [Value.int .u8 x.size] :: R) 1 (some ⟨w4.heap.size, 0, none⟩) 2 2 (ps.map PtV.cell) :=
    fun w' s' => by subst hps; exact St.rowRd s' rfl (by decide) (pt_one _)
  have hq : ∀ y ∈ ps, Rds W (row w4.heap.size 0 [Value.slice (some ⟨w.heap.size, 0, none⟩) 1 1, .slice (some ⟨w.heap.size + 1, 0, none⟩) x.size cp] :: OwnS 1 (some ⟨w.heap.size + 1, 0, none⟩) x.size cp (byC x.data.toList) :: row w.heap.size 0 [Value.int .u8 x.size] :: R) 1 y.a y.n y.c (byC y.bs) := fun y hy w' s' => by
    subst hps
    rcases List.mem_cons.1 hy with rfl | hy
    · show RdS w' 1 (some ⟨w.heap.size, 0, none⟩) 1 1 (byC [UInt8.ofNat x.size])
      rw [hb1]; exact St.rowRd (St.pick 2 s') rfl (by decide) (by intro u hu; rw [List.mem_singleton] at hu; subst hu; rfl)
    · rw [List.mem_singleton] at hy; subst hy
      exact OwnS.rd (St.pick 1 s')
  have hl : ptLen ps = 1 + x.size := by subst hps; simp [ptLen]
  have hbs : ptBs ps = txtB x := by subst hps; simp [ptBs, txtB]
  have hpl : ps.length ≤ 4096 := by subst hps; show 2 ≤ 4096; decide
  have s4 : St W _ (WrA b out :: row w4.heap.size 0 [Value.slice (some ⟨w.heap.size, 0, none⟩) 1 1, .slice (some ⟨w.heap.size + 1, 0, none⟩) x.size cp] :: OwnS 1 (some ⟨w.heap.size + 1, 0, none⟩) x.size cp (byC x.data.toList) :: row w.heap.size 0 [Value.int .u8 x.size] :: R) := St.pick 3 s3
  have HBS := hid hbs; have HPL := hid hpl; have HQ := hid hq; have HP := hid hp; have HLN := hid hl
  clear hbs hpl hq hp hl hps hb1 s1 s2 s3
  go_enter Tryz.func205, Tryz.ntmps205
  go_wp2_with (go_at_call 227; go_loud (refine wput_c HP.out HQ.out (by rw [HLN.out]; omega) (by omega) HPL.out s4 ?_; rintro w5 s5; rw [HBS.out] at s5))
  exact HK.out _ ((s5.perm [1, 1, 1]).dropN 3)
end
end Go.Proofs.YtojfjbbggpfijaaGreatDoor

/- An entry's bytes: Lay, Encode. Printed by mkEncA.py. -/
namespace Go.Proofs.YtojfjbbggpfijaaGreatDoor
open Go.RowKit Go.Qd

theorem encE_parts (key val : ByteArray) (dead : Bool) (sc ss ac az kp age : Nat) (out : List UInt8) :
    out ++ txtB key ++ flagB dead ++ txtB val ++ leB sc 4 ++ leB ss 1 ++ leB ac 4 ++ leB az 1 ++ leB kp 2 ++ leB age 4 = out ++ encE ⟨key, val, dead, sc, ss, ac, az, kp, age⟩ := by
  unfold encE
  simp only [Int.toNat_natCast, List.append_assoc]
theorem u64_nat {n : Nat} (h : n < 4294967296) : IntKind.u64.wrap (n : Int) = n := IntWalk.u64_in _ (by omega)

section
variable {W w : World} {R : List HP} {post : Ending → World → Prop}

set_option maxRecDepth 100000 in
set_option maxHeartbeats 16000000 in
theorem lay_c {b : Nat} {out : List UInt8} {key val : ByteArray} {dead : Bool} {sc ss ac az kp age : Nat} (hk : key.size ≤ 16) (hv : val.size ≤ 32) (h1 : sc < 4294967296) (h2 : ss < 12) (h3 : ac < 4294967296) (h4 : az < 12) (h5 : kp < 4096) (h6 : age < 4294967296)
    (ho : out.length ≤ 900000) (st : St W w (WrA b out :: R))
    (K : ∀ w', St W w' (WrA b (out ++ encE ⟨key, val, dead, sc, ss, ac, az, kp, age⟩) :: R) → post (.returned (.tuple #[])) w') :
    Calls Tryz.prog 181 #[.pointer (some ⟨b, 0, none⟩), .agg (EnV.cells ⟨key, val, dead, sc, ss, ac, az, kp, age⟩).toArray] w post := by
  rw [← encE_parts] at K
  have HK := hid K; clear K
  have hA : (out ++ txtB key).length ≤ 1000000 := by rw [List.length_append, txtB_len]; omega
  have hB : (out ++ txtB key ++ flagB dead).length ≤ 1000000 := by rw [List.length_append, List.length_append, txtB_len]; show _ + 1 ≤ _; omega
  have hC : (out ++ txtB key ++ flagB dead ++ txtB val).length ≤ 950000 := by rw [List.length_append, List.length_append, List.length_append, txtB_len, txtB_len]; show _ + 1 + _ ≤ _; omega
  have w1 := u64_nat (n := sc) (by omega)
  have w2 := u64_nat (n := ss) (by omega)
  have w3 := u64_nat (n := ac) (by omega)
  have w4 := u64_nat (n := az) (by omega)
  have w5 := u64_nat (n := kp) (by omega)
  have w6 := u64_nat (n := age) (by omega)
  go_enter Tryz.func181, Tryz.ntmps181
  go_wp2_with (refine wpl_boxA (vs := EnV.cells ⟨key, val, dead, sc, ss, ac, az, kp, age⟩) rfl (.tmp 1) rfl rfl st ?_; rintro T w1 s1)
  try simp only [Act.put, List.setIfInBounds_toArray, List.set_cons_succ, List.set_cons_zero]
  go_cut [] (fun wx => St W wx (WrA b (out ++ txtB key ++ flagB dead ++ txtB val) :: row T 0 (EnV.cells ⟨key, val, dead, sc, ss, ac, az, kp, age⟩) :: R))
  case first =>
    have s2 := St.pick 1 s1.drew
    obtain ⟨⟨a0, a1, a2, a7, a8⟩, a3, a5⟩ := enParts s1.drew
    go_region_law (first
      | (go_simp; go_at_call 206; refine wflag_c hA sA ?_; rintro wB sB; obtain ⟨⟨a0, a1, a2, a7, a8⟩, a3, a5⟩ := enParts (St.pick 1 sB))
      | (go_simp; go_at_call 205; have z := sB; refine wtext_c (by omega) hB sB ?_; rintro wC sC)
      | (go_simp; go_at_call 205; refine wtext_c (by omega) (by omega) s2 ?_; rintro wA sA; obtain ⟨⟨a0, a1, a2, a7, a8⟩, a3, a5⟩ := enParts (St.pick 1 sA)))
    all_goals
      go_wp2_with fail
      go_meet
      exact sC
  case rest =>
    obtain ⟨o1, ho1⟩ : ∃ o, out ++ txtB key ++ flagB dead ++ txtB val = o := ⟨_, rfl⟩
    rw [ho1] at hcut HK hC
    clear ho1
    obtain ⟨_, a3, a5⟩ := enParts (St.pick 1 hcut)
    go_wp2_with (first
      | (refine wpl_loadA (vs := [.int .i64 sc, .int .i64 ss]) rfl (.tmp 16) (by rfl) agg_st (by rfl) rfl a3 ?_)
      | (refine wpl_loadA (vs := [.int .i64 ac, .int .i64 az]) rfl (.tmp 18) (by rfl) agg_st (by rfl) rfl a5 ?_)
      | (refine wpl_build rfl rfl (v := .agg [Value.int .i64 sc, .int .i64 ss, .int .i64 ac, .int .i64 az].toArray) (by kernel_rfl) ?_))
    go_loopw [21] (fun ii wr => (ii = .int .i64 0 ∧ St W wr (WrA b o1 :: row T 0 (EnV.cells ⟨key, val, dead, sc, ss, ac, az, kp, age⟩) :: R)) ∨
      (ii = .int .i64 1 ∧ St W wr (WrA b (o1 ++ leB sc 4 ++ leB ss 1) :: row T 0 (EnV.cells ⟨key, val, dead, sc, ss, ac, az, kp, age⟩) :: R)) ∨
      (ii = .int .i64 2 ∧ St W wr (WrA b (o1 ++ leB sc 4 ++ leB ss 1 ++ leB ac 4 ++ leB az 1) :: row T 0 (EnV.cells ⟨key, val, dead, sc, ss, ac, az, kp, age⟩) :: R))) (fun ii _ => 2 - (intOf ii).toNat)
    case atStart => exact .inl ⟨rfl, hcut⟩
    case round =>
      rcases hrel with ⟨rfl, sr⟩ | ⟨rfl, sr⟩ | ⟨rfl, sr⟩
      · have hD : (o1 ++ leB sc 4).length ≤ 1000000 := by simp only [List.length_append, leB_len]; omega
        have hE : (o1).length ≤ 1000000 := by first | omega | (simp only [List.length_append, leB_len]; omega)
        go_wp2_with (first
          | (refine wpl_index rfl (.tmp 20) (.tmp 21) rfl (by rfl) (by rfl) (run_index2 (k := 0) Tryz.underlying333 agg_st (by decide) (xs := [.int .i64 sc, .int .i64 ss]) (by rfl)) ?_)
          | (refine wpl_allocA rfl rfl zero_stOf sr ?_; rintro U wU sU)
          | (refine wpl_storeA (vs := [.int .i64 sc, .int .i64 ss]) rfl (.tmp 5) (.tmp 23) (by rfl) agg_st (by rfl) (by rfl) rfl (by simp [Value.oneCell']) sU rfl ?_; rintro wV sV))
        try simp only [Act.put, List.setIfInBounds_toArray, List.set_cons_succ, List.set_cons_zero]
        have sW := St.pick 1 sV.drew
        obtain ⟨c0, c1, _, _⟩ := rowTwo0 sV.drew
        go_region_law (first
          | (go_simp; go_at_call 207; have z := sX; refine wnumber_c (v := ss) (k := 1) (by decide) (by omega) hD sX ?_; rintro wY sY)
          | (go_simp; go_at_call 207; refine wnumber_c (v := sc) (k := 4) (by decide) (by omega) hE sW ?_; rintro wX sX; obtain ⟨c0, c1, _, _⟩ := rowTwo0 (St.pick 1 sX)))
        all_goals
          go_wp2_with fail
          go_roundw
          case rel => exact .inr (.inl ⟨rfl, (sY.perm [1]).drop⟩)
          case measure => simp [intOf]
      · have hD : (o1 ++ leB sc 4 ++ leB ss 1 ++ leB ac 4).length ≤ 1000000 := by simp only [List.length_append, leB_len]; omega
        have hE : (o1 ++ leB sc 4 ++ leB ss 1).length ≤ 1000000 := by first | omega | (simp only [List.length_append, leB_len]; omega)
        go_wp2_with (first
          | (refine wpl_index rfl (.tmp 20) (.tmp 21) rfl (by rfl) (by rfl) (run_index2 (k := 1) Tryz.underlying333 agg_st (by decide) (xs := [.int .i64 ac, .int .i64 az]) (by rfl)) ?_)
          | (refine wpl_allocA rfl rfl zero_stOf sr ?_; rintro U wU sU)
          | (refine wpl_storeA (vs := [.int .i64 ac, .int .i64 az]) rfl (.tmp 5) (.tmp 23) (by rfl) agg_st (by rfl) (by rfl) rfl (by simp [Value.oneCell']) sU rfl ?_; rintro wV sV))
        try simp only [Act.put, List.setIfInBounds_toArray, List.set_cons_succ, List.set_cons_zero]
        have sW := St.pick 1 sV.drew
        obtain ⟨c0, c1, _, _⟩ := rowTwo0 sV.drew
        go_region_law (first
          | (go_simp; go_at_call 207; have z := sX; refine wnumber_c (v := az) (k := 1) (by decide) (by omega) hD sX ?_; rintro wY sY)
          | (go_simp; go_at_call 207; refine wnumber_c (v := ac) (k := 4) (by decide) (by omega) hE sW ?_; rintro wX sX; obtain ⟨c0, c1, _, _⟩ := rowTwo0 (St.pick 1 sX)))
        all_goals
          go_wp2_with fail
          go_roundw
          case rel => exact .inr (.inr ⟨rfl, (sY.perm [1]).drop⟩)
          case measure => simp [intOf]
      · have hD : (o1 ++ leB sc 4 ++ leB ss 1 ++ leB ac 4 ++ leB az 1 ++ leB kp 2).length ≤ 1000000 := by simp only [List.length_append, leB_len]; omega
        have hE : (o1 ++ leB sc 4 ++ leB ss 1 ++ leB ac 4 ++ leB az 1).length ≤ 1000000 := by simp only [List.length_append, leB_len]; omega
        obtain ⟨⟨_, _, _, a7, a8⟩, _, _⟩ := enParts (St.pick 1 sr.drew)
        have sW := sr.drew
        go_wp2_with fail
        go_region_law (first
          | (go_simp; go_at_call 207; have z := sX; refine wnumber_c (v := age) (k := 4) (by decide) (by omega) hD sX ?_; rintro wY sY)
          | (go_simp; go_at_call 207; refine wnumber_c (v := kp) (k := 2) (by decide) (by omega) hE sW ?_; rintro wX sX; obtain ⟨⟨_, _, _, a7, a8⟩, _, _⟩ := enParts (St.pick 1 sX)))
        all_goals
          go_wp2_with fail
          go_end0
          exact HK.out _ ((sY.perm [1]).drop)

theorem stampB_nat {c s : Int} (h : stampB c s = true) : 1 ≤ c ∧ c < 4294967296 ∧ 0 ≤ s ∧ s < 12 := by
  unfold stampB at h
  simp only [Bool.and_eq_true, decide_eq_true_eq] at h
  omega
theorem entry_nats {e : EnV} (h : checkE e = 0) : ∃ sc ss ac az kp age : Nat, e = ⟨e.key, e.val, e.dead, sc, ss, ac, az, kp, age⟩ ∧ sc < 4294967296 ∧ ss < 12 ∧ ac < 4294967296 ∧ az < 12 ∧ kp < 4096 ∧ age < 4294967296 ∧ e.key.size ≤ 16 ∧ e.val.size ≤ 32 := by
  obtain ⟨h1, h2, h3, h4, h5, h6, h7, h8⟩ := checkE_ok h
  obtain ⟨a1, a2, a3, a4⟩ := stampB_nat h4
  obtain ⟨b1, b2, b3, b4⟩ := stampB_nat h5
  have hk : 0 ≤ e.kp ∧ e.kp < 4096 ∧ 0 ≤ e.age ∧ e.age < 4294967296 := by
    cases hd : e.dead with
    | false =>
      have := h7 hd
      unfold plainB at this
      simp only [Bool.and_eq_true, beq_iff_eq] at this
      omega
    | true =>
      have := (h8 hd).1
      unfold keptB at this
      simp only [Bool.and_eq_true, decide_eq_true_eq] at this
      omega
  obtain ⟨key, val, dead, sc, ss, ac, az, kp, age⟩ := e
  simp only at *
  obtain ⟨x1, rfl⟩ := Int.eq_ofNat_of_zero_le (show 0 ≤ sc by omega)
  obtain ⟨x2, rfl⟩ := Int.eq_ofNat_of_zero_le (show 0 ≤ ss by omega)
  obtain ⟨x3, rfl⟩ := Int.eq_ofNat_of_zero_le (show 0 ≤ ac by omega)
  obtain ⟨x4, rfl⟩ := Int.eq_ofNat_of_zero_le (show 0 ≤ az by omega)
  obtain ⟨x5, rfl⟩ := Int.eq_ofNat_of_zero_le (show 0 ≤ kp by omega)
  obtain ⟨x6, rfl⟩ := Int.eq_ofNat_of_zero_le (show 0 ≤ age by omega)
  exact ⟨x1, x2, x3, x4, x5, x6, rfl, by omega, by omega, by omega, by omega, by omega, by omega, h2, h3⟩

theorem layE_c {b : Nat} {out : List UInt8} {e : EnV} (h : checkE e = 0) (ho : out.length ≤ 900000) (st : St W w (WrA b out :: R))
    (K : ∀ w', St W w' (WrA b (out ++ encE e) :: R) → post (.returned (.tuple #[])) w') :
    Calls Tryz.prog 181 #[.pointer (some ⟨b, 0, none⟩), .agg e.cells.toArray] w post := by
  obtain ⟨x1, x2, x3, x4, x5, x6, he, h1, h2, h3, h4, h5, h6, hk, hv⟩ := entry_nats h
  rw [he] at K ⊢
  exact lay_c hk hv h1 h2 h3 h4 h5 h6 ho st K

theorem zero_wr (w : World) : (zeroValue 309).run Tryz.prog w = .ok (.agg [Value.slice none 0 0, .int .i64 0].toArray) w := by kernel_rfl

set_option maxRecDepth 100000 in
set_option maxHeartbeats 1000000 in
theorem encode_c {e : EnV} (h : checkE e = 0) (st : St W w R)
    (K : ∀ a n c w', n = (encE e).length → St W w' (OwnS 1 a n c (byC (encE e)) :: R) → post (.returned (.tuple #[.slice a n c, .int .i64 0])) w') :
    Calls Tryz.prog 152 #[.agg e.cells.toArray] w post := by
  have HK := hid K; clear K
  have HX := hid h
  have hl : (encE e).length ≤ 1048576 := by obtain ⟨_, h2, h3, _⟩ := checkE_ok h; rw [encE_len]; omega
  clear h
  go_enter Tryz.func152, Tryz.ntmps152
  go_wp2_with (first
    | (refine wpl_boxA (vs := e.cells) rfl (.tmp 0) rfl rfl st ?_; rintro T w1 s1)
    | (refine wpl_loadA (vs := e.cells) rfl (.tmp 1) (by rfl) agg_en (by rfl) rfl s1.rowAll ?_)
    | (go_at_call 50; refine check_c s1 ?_; rintro w2 s2; rw [HX.out])
    | (refine wpl_allocA rfl rfl zero_wr s2 ?_; rintro B w3 s3; have s4 : St W w3 (WrA B [] :: row T 0 e.cells :: R) := WrA.close ((OwnS.none0 s3).pick 1))
    | (refine wpl_loadA (vs := e.cells) rfl (.tmp 1) (by rfl) agg_en (by rfl) rfl (St.pick 1 s4).rowAll ?_)
    | (go_at_call 181; refine layE_c HX.out (by decide) s4 ?_; rintro w5 s5; rw [List.nil_append] at s5)
    | (go_at_call 182; refine wbytes_c hl s5 ?_; rintro a6 n6 c6 w6 hn6 s6; have HN6 := hid hn6; clear hn6)
    | (go_at_call 183; refine werr_c (St.pick 1 s6) ?_))
  exact HK.out _ _ _ _ HN6.out ((s6.perm [1, 1]).dropN 2)

set_option maxRecDepth 100000 in
set_option maxHeartbeats 1000000 in
theorem encode_no {e : EnV} (h : checkE e ≠ 0) (st : St W w R) (K : ∀ w', St W w' R → post (.returned (.tuple #[.slice none 0 0, .int .i64 (checkE e)])) w') :
    Calls Tryz.prog 152 #[.agg e.cells.toArray] w post := by
  have HK := K; clear K
  obtain ⟨x, hx⟩ : ∃ x, checkE e = x := ⟨_, rfl⟩
  rw [hx] at HK h
  have HX := hid hx
  have hb : (x != 0) = true := by simp [h]
  have HK2 := hid HK
  clear hx h HK
  go_enter Tryz.func152, Tryz.ntmps152
  go_wp2_with (first
    | (refine wpl_boxA (vs := e.cells) rfl (.tmp 0) rfl rfl st ?_; rintro T w1 s1)
    | (refine wpl_loadA (vs := e.cells) rfl (.tmp 1) (by rfl) agg_en (by rfl) rfl s1.rowAll ?_)
    | (go_at_call 50; refine check_c s1 ?_; rintro w2 s2; rw [HX.out]))
  exact HK2.out _ s2.drop
end
end Go.Proofs.YtojfjbbggpfijaaGreatDoor
