/- JrnsR: several texts, joined. slices.Equal of the same bytes; crc's Holds where the sum is right. -/
import Derived.Test.YtggbeedghblakaaGreatDoorRecs
import Derived.Test.YtggbeedghblakaaGreatDoorCrcs
import Derived.Test.YtggbeedghblakaaGreatDoorDsks
import Derived.Test.YtggbeedghblakaaGreatDoorOpnA
namespace Go.Proofs.YtggbeedghblakaaGreatDoor
open Go.RowKit Go.Qd

section
variable {W w : World} {R : List HP} {post : Ending → World → Prop}
set_option maxRecDepth 100000 in
set_option maxHeartbeats 2000000 in
theorem equalU_c {a b : Option Addr} {n c d : Nat} {xs : List UInt8} (ha : Rds W R 1 a n c (byC xs)) (hb : Rds W R 1 b n d (byC xs)) (hm : n ≤ 1048576) (st : St W w R) (K : ∀ w', St W w' R → post (.returned (.bool true)) w') :
    Calls Tryz.prog 227 #[.slice a n c, .slice b n d] w post := by
  have HK := hid K; clear K
  have HA := hid ha; have HB := hid hb
  have HL : Hid (xs.length = n) := hid (by have := (ha _ st).len; rw [byC_len] at this; omega)
  clear ha hb
  go_enter Tryz.func227, Tryz.ntmps227
  go_wp2_with fail
  go_loopw [13] (fun iv wr => ∃ i : Nat, i ≤ n ∧ iv = .int .i64 i ∧ St W wr R) (fun iv _ => n - (intOf iv).toNat)
  case atStart => exact ⟨0, Nat.zero_le _, rfl, st⟩
  case round =>
    obtain ⟨i, hi, rfl, sr⟩ := hrel
    by_cases hlt : i < n
    · have hi2 : (i : Int) < (n : Int) := by omega
      have ra := HA.out _ sr
      have rb := HB.out _ sr
      obtain ⟨g, o, rfl⟩ := ra.addr (by omega)
      obtain ⟨g2, o2, rfl⟩ := rb.addr (by omega)
      obtain ⟨x, hx⟩ : ∃ x, (byC xs)[i]? = some (.int .u8 x) := by
        have h1 : i < xs.length := by rw [HL.out]; exact hlt
        exact ⟨_, by unfold byC; rw [List.getElem?_map, List.getElem?_eq_getElem h1]; rfl⟩
      have c1 := ra.at hx
      have c2 := rb.at hx
      clear ra rb hx
      go_wp2_with (go_quiet (fail))
      go_roundw
      case rel => exact ⟨i + 1, by omega, by go_num, sr.drewN _⟩
      case measure => simp [intOf]; omega
    · have hie : i = n := by omega
      subst hie
      go_wp2_with fail
      exact HK.out _ sr

set_option maxRecDepth 100000 in
set_option maxHeartbeats 2000000 in
theorem holds_c {T : Nat} {m : Bool} {a : Option Addr} {n c : Nat} {ys : List UInt8} (hp : Rds W R 1 a n c (byC (sealB ys))) (hn : n ≤ 1000000) (st : St W w (CrcT T m :: R)) (K : ∀ w', St W w' (CrcT T true :: R) → post (.returned (.bool true)) w') :
    Calls Tryz.prog 203 #[.pointer (some ⟨T, 0, none⟩), .slice a n c] w post := by
  have HK := hid K; clear K
  obtain ⟨k, hk⟩ : ∃ k, ys.length = k := ⟨_, rfl⟩
  have hl : n = k + 4 := by
    have := (hp _ st.drop).len
    unfold sealB at this
    rw [byC_len, List.length_append, leB_len] at this
    omega
  have hle : n ≤ c := (hp _ st.drop).le
  have hs2 := run_slice_to (P := Tryz.prog) Tryz.elem104 a n c k (by omega)
  have w1 : IntKind.i64.wrap ((n : Int) - 4) = (k : Int) := by rw [IntWalk.i64_in _ (by omega)]; omega
  have d1 : decide ((k : Int) ≥ 0) = true := decide_eq_true (by omega)
  have hq : Rds W R 1 a k c (byC ys) := fun w' s' => by
    have := (hp w' s').short (k := k) (by omega)
    rw [Nat.mul_one] at this
    have e : (byC (sealB ys)).take k = byC ys := by
      unfold byC sealB
      rw [← List.map_take, ← hk, List.take_left]
    rwa [e] at this
  have HQ := hid hq; have HP := hid hp
  have hkn : k ≤ 1048576 := by omega
  have HN : Hid ((sealB ys).length = n) := hid (by unfold sealB; rw [List.length_append, leB_len]; omega)
  clear hq hp hl hk
  go_enter Tryz.func203, Tryz.ntmps203
  go_wp2_with (first
    | (go_at_call 220; refine cmark_c HQ.out hkn st ?_; rintro a1 n1 c1 w2 hn1 s2; rw [HN.out] at hn1; subst hn1)
    | (go_at_call 227; refine equalU_c (xs := sealB ys) (fun w' s' => OwnS.rd s') HP.out.cons.cons (by omega) s2 ?_; rintro w3 s3))
  exact HK.out _ s3.drop
end
end Go.Proofs.YtggbeedghblakaaGreatDoor

/- The journal's reading: records that are there whole, and a tail that is torn. -/
namespace Go.Proofs.YtggbeedghblakaaGreatDoor
open Go.RowKit Go.Qd

theorem run_slice_midN {P : Program} {t e : TypeId} {sz bytes : Nat} (E : ElemT P t e sz bytes) (ao : Option Addr) (n c k m n' : Nat) {i j : Int} (hik : i = k) (hjm : j = m) (hn : n' + k = m) (hm : m ≤ c) :
    ∃ ax cx, TailOf sz ao k c ax cx ∧ ∀ w, (Instr.slice t (.slice ao n c) (some (.int .i64 i)) (some (.int .i64 j)) none).run P w = .ok (.slice ax n' cx) w := by
  subst hik hjm
  obtain ⟨i, z, hi', hz, hsz, hby, hzs, hzo⟩ := E.info
  refine ⟨_, _, ⟨rfl, rfl⟩, fun w => ?_⟩
  have hkn : (k : Int) ≤ (m : Int) := by omega
  have hmc : (m : Int) ≤ (c : Int) := by omega
  simp [Instr.slice, run_underlying E.und, Instr.sliceBounds, run_sliceBound, hkn, hmc, sizeOf, typeInfo, hi', hsz]
  omega

theorem elemLL : ElemT Tryz.prog 135 104 1 24 := ElemT.mk' Tryz.underlying135 (by kernel_rfl : (Tryz.prog.info? 104).map (fun i => (i.zero, i.size, i.bytes)) = some (some (.slice none 0 0), 1, 24)) rfl (by decide) (by simp [Value.cells, Value.oneCell'])

/-- A reader of a journal: its table of sums, what is left, how far it is. -/
def RdrJ (T : Nat) (a : Option Addr) (n c : Nat) (t : Int) : HP := fun h => ∃ m : Bool, sepL [CrcT T m, row T 259 [.slice a n c, .int .i64 t]] h

section
attribute [local go_sem ↓] execOp_ldAny
variable {W w : World} {R : List HP} {post : Ending → World → Prop} {T n c : Nat} {a : Option Addr} {t : Int} {xs : List UInt8}

theorem RdrJ.open (s : St W w (RdrJ T a n c t :: R)) : ∃ m, St W w (CrcT T m :: row T 259 [.slice a n c, .int .i64 t] :: R) := by
  obtain ⟨m, s⟩ := St.ex (F := fun (m : Bool) h => sepL [CrcT T m, row T 259 [.slice a n c, .int .i64 t]] h) s
  exact ⟨m, (St.flat [CrcT T m, row T 259 [.slice a n c, .int .i64 t]]).1 s⟩
theorem RdrJ.close {m : Bool} (s : St W w (CrcT T m :: row T 259 [.slice a n c, .int .i64 t] :: R)) : St W w (RdrJ T a n c t :: R) :=
  ((St.flat [CrcT T m, row T 259 [.slice a n c, .int .i64 t]]).2 s).imp fun _ x => ⟨m, x⟩
theorem RdrJ.ld (s : St W w (RdrJ T a n c t :: R)) : (loadG 104 (.pointer (some ⟨T, 259, none⟩))).run Tryz.prog w = .ok (.slice a n c) w ∧ (loadG 3 (.pointer (some ⟨T, 260, none⟩))).run Tryz.prog w = .ok (.int .i64 t) w ∧
    w.cell? ⟨T, 259, none⟩ = some (.slice a n c) ∧ w.cell? ⟨T, 260, none⟩ = some (.int .i64 t) ∧ w.frozen? ⟨T, 259, none⟩ = false ∧ w.frozen? ⟨T, 260, none⟩ = false := by
  obtain ⟨m, s1⟩ := RdrJ.open s
  have s2 := St.pick 1 s1
  have c0 : w.cell? ⟨T, 259, none⟩ = some (.slice a n c) := s2.rowCell (i := 0) rfl
  have c1 : w.cell? ⟨T, 260, none⟩ = some (.int .i64 t) := s2.rowCell (i := 1) rfl
  exact ⟨run_ldP (by kernel_rfl) c0, run_ldP (by kernel_rfl) c1, c0, c1, s2.rowFree (i := 0) (by simp), s2.rowFree (i := 1) (by simp)⟩
theorem RdrJ.set0 {a' : Option Addr} {n' c' : Nat} (s : St W w (RdrJ T a n c t :: R)) : St W (w.setCell ⟨T, 259, none⟩ (.slice a' n' c')) (RdrJ T a' n' c' t :: R) := by
  obtain ⟨m, s1⟩ := RdrJ.open s
  have s2 := (St.pick 1 s1).rowSet (i := 0) (by simp) (.slice a' n' c')
  exact RdrJ.close (m := m) (s2.pick 1)
theorem RdrJ.set1 {t' : Int} (s : St W w (RdrJ T a n c t :: R)) : St W (w.setCell ⟨T, 260, none⟩ (.int .i64 t')) (RdrJ T a n c t' :: R) := by
  obtain ⟨m, s1⟩ := RdrJ.open s
  have s2 := (St.pick 1 s1).rowSet (i := 1) (by simp) (.int .i64 t')
  exact RdrJ.close (m := m) (s2.pick 1)
theorem RdrJ.start (s : St W w (row T 0 (rdrC a n c t) :: R)) : St W w (RdrJ T a n c t :: R) := by
  unfold rdrC at s
  have s1 := St.rowAppend.1 s
  have hl : (Value.int .u32 0 :: .int .i32 0 :: .int .u32 0 :: rowsC 0).length = 259 := by simp [rowsC_len]
  rw [hl] at s1
  exact RdrJ.close (m := false) s1

theorem seal_take {k : Nat} {xs : List UInt8} (h : xs.take 6 = sealB (leB k 2)) : xs.take 2 = leB k 2 := by
  have e : xs.take 2 = (xs.take 6).take 2 := by rw [List.take_take]; rfl
  rw [e, h]
  unfold sealB
  rw [List.take_append_of_le_length (by rw [leB_len]; exact Nat.le_refl _), List.take_of_length_le (by rw [leB_len]; exact Nat.le_refl _)]

theorem sizeS_c (hn : n < 6) (st : St W w (RdrJ T a n c t :: R)) (K : post (.returned (.tuple #[.int .i64 0, .int .i64 0])) w) :
    Calls Tryz.prog 202 #[.pointer (some ⟨T, 0, none⟩)] w post := by
  have HK := hid K; clear K
  obtain ⟨l0, l1, c0, c1, f0, f1⟩ := RdrJ.ld st
  have h1 : decide ((n : Int) < 6) = true := decide_eq_true (by omega)
  clear hn
  go_enter Tryz.func202, Tryz.ntmps202
  go_wp2_with fail
  exact HK.out

set_option maxRecDepth 100000 in
set_option maxHeartbeats 4000000 in
theorem size_c {k : Nat} (hn : 6 ≤ n) (hm : n ≤ 1048576) (hk : 1 ≤ k ∧ k ≤ 512) (hx : xs.take 6 = sealB (leB k 2)) (hr : Rds W R 1 a n c (byC xs)) (st : St W w (RdrJ T a n c t :: R))
    (K : ∀ w', St W w' (RdrJ T a n c t :: R) → post (.returned (.tuple #[.int .i64 k, .int .i64 1])) w') :
    Calls Tryz.prog 202 #[.pointer (some ⟨T, 0, none⟩)] w post := by
  have HK := hid K; clear K
  have HR := hid hr
  have hle : n ≤ c := (hr _ st.drop).le
  have hs2 : ∀ w, (Instr.slice 104 (.slice a n c) none (some (.int .i64 6)) none).run Tryz.prog w = .ok (.slice a 6 c) w := run_slice_to (P := Tryz.prog) Tryz.elem104 a n c 6 (by omega)
  have hq : Rds W R 1 a 6 c (byC (sealB (leB k 2))) := fun w' s' => by
    have := (hr w' s').short (k := 6) hn
    rw [← hx]; unfold byC; rw [List.map_take]; exact this
  have HQ := hid hq
  have HX := hid (seal_take hx)
  have h1 : decide ((n : Int) < 6) = false := decide_eq_false (by omega)
  have h2 : decide ((k : Int) < 1) = false := decide_eq_false (by omega)
  have h3 : decide ((k : Int) > 512) = false := decide_eq_false (by omega)
  have h4 : IntKind.i64.wrap (k : Int) = (k : Int) := IntWalk.i64_in _ (by omega)
  obtain ⟨l0, l1, c0, c1, f0, f1⟩ := RdrJ.ld st
  clear hr hq hx hle
  go_enter Tryz.func202, Tryz.ntmps202
  go_wp2_with fail
  have hN : Nonempty (Cls (fun w' => St W w' (RdrJ T a n c t :: R))) := Cls.inh st
  have g0 := fun s : Cls (fun w' => St W w' (RdrJ T a n c t :: R)) => (RdrJ.ld s.h).1
  refine wp_region_class (fun w' => St W w' (RdrJ T a n c t :: R)) (by kernel_rfl) (by kernel_rfl) st.drew ?_
  repeat (go_big_quiet_step ((rename_i s; go_at_call 203; obtain ⟨m1, s1⟩ := RdrJ.open s.h; refine holds_c (ys := leB k 2) HQ.out.cons (by decide) s1 ?_; rintro w2 s2; exact Cls.end _ (RdrJ.close s2))))
  clear hN g0
  refine wpQuiet_nil ?_
  rintro ⟨w3, s3⟩
  dsimp only
  obtain ⟨l0', l1', c0', c1', f0', f1'⟩ := RdrJ.ld s3
  go_wp2_with (first
    | (go_at_call 171; refine rread_c HR.out.cons hm s3 ?_; rintro b a4 c4 w4 s4)
    | (go_at_call 207; refine rnumber_c (k := 2) (v := k) (by omega) (by decide) hm HX.out (by omega) (fun _ s => OwnS.rd s) s4 ?_; rintro ax' m' cx' w5 HS s5; clear HS))
  exact HK.out _ (s5.dropN 2)

/-! The next record. -/
set_option maxRecDepth 100000 in
theorem nextS_c (hn : n < 6) (st : St W w (RdrJ T a n c t :: R)) (K : post (.returned (.tuple #[.slice none 0 0, .int .i64 0])) w) :
    Calls Tryz.prog 166 #[.pointer (some ⟨T, 0, none⟩)] w post := by
  have HK := hid K; clear K
  go_enter Tryz.func166, Tryz.ntmps166
  go_wp2_with (go_at_call 202; refine sizeS_c hn st ?_)
  exact HK.out

set_option maxRecDepth 100000 in
set_option maxHeartbeats 4000000 in
theorem nextT_c {k : Nat} (hn : 6 ≤ n) (hnk : n < k + 10) (hm : n ≤ 1048576) (hk : 1 ≤ k ∧ k ≤ 512) (hx : xs.take 6 = sealB (leB k 2)) (hr : Rds W R 1 a n c (byC xs)) (st : St W w (RdrJ T a n c t :: R))
    (K : ∀ w', St W w' (RdrJ T a n c t :: R) → post (.returned (.tuple #[.slice none 0 0, .int .i64 0])) w') :
    Calls Tryz.prog 166 #[.pointer (some ⟨T, 0, none⟩)] w post := by
  have HK := hid K; clear K
  have w1 : IntKind.i64.wrap (6 + (k : Int)) = 6 + (k : Int) := IntWalk.i64_in _ (by omega)
  have w2 : IntKind.i64.wrap (6 + (k : Int) + 4) = ((k + 10 : Nat) : Int) := by rw [IntWalk.i64_in _ (by omega)]; push_cast; omega
  have h1 : decide (n < k + 10) = true := decide_eq_true (by omega)
  obtain ⟨z, hz⟩ : ∃ z : Nat, k + 10 = z := ⟨_, rfl⟩
  rw [hz] at w2 h1
  clear hz hnk
  go_enter Tryz.func166, Tryz.ntmps166
  go_wp2_with (go_at_call 202; refine size_c hn hm hk hx hr st ?_; rintro w3 s3; obtain ⟨l0, l1, c0, c1, f0, f1⟩ := RdrJ.ld s3)
  exact HK.out _ s3

theorem rec_parts {x ys : List UInt8} : (recB x ++ ys).take 6 = sealB (leB x.length 2) ∧ ((recB x ++ ys).take (x.length + 10)).drop 6 = sealB x ∧ ((recB x ++ ys).take (6 + x.length)).drop 6 = x ∧ (recB x ++ ys).drop (x.length + 10) = ys := by
  have h1 : (sealB (leB x.length 2)).length = 6 := by rw [sealB_len, leB_len]
  have h2 : (sealB x).length = x.length + 4 := sealB_len x
  have h3 : (recB x).length = x.length + 10 := recB_len x
  refine ⟨?_, ?_, ?_, ?_⟩
  · unfold recB
    rw [List.append_assoc, ← h1]; exact List.take_left
  · rw [← h3, List.take_left]
    unfold recB
    rw [← h1]; exact List.drop_left
  · rw [List.drop_take, Nat.add_sub_cancel_left]
    unfold recB
    rw [List.append_assoc, ← h1, List.drop_left]
    unfold sealB
    rw [List.append_assoc, List.take_left]
  · rw [← h3]; exact List.drop_left

set_option maxRecDepth 100000 in
set_option maxHeartbeats 8000000 in
theorem nextR_c {x ys : List UInt8} {k : Nat} (hkk : x.length = k) (hk : 1 ≤ k ∧ k ≤ 512) (hm : n ≤ 1048576) (ht : 0 ≤ t ∧ t ≤ 1048576) (hr : Rds W R 1 a n c (byC (recB x ++ ys))) (st : St W w (RdrJ T a n c t :: R))
    (K : ∀ ba bc ax n' cx w', Sub (k + 10) a n c ax n' cx → St W w' (OwnS 1 ba k bc (byC x) :: RdrJ T ax n' cx (t + (k + 10 : Nat)) :: R) → post (.returned (.tuple #[.slice ba k bc, .int .i64 1])) w') :
    Calls Tryz.prog 166 #[.pointer (some ⟨T, 0, none⟩)] w post := by
  have HK := hid K; clear K
  obtain ⟨p1, p2, p3, p4⟩ := rec_parts (x := x) (ys := ys)
  rw [hkk] at p1 p2 p3 p4
  have hl : n = k + 10 + ys.length := by
    have := (hr _ st.drop).len
    rw [byC_len, List.length_append, recB_len, hkk] at this
    omega
  have hle : n ≤ c := (hr _ st.drop).le
  obtain ⟨z, hz⟩ : ∃ z : Nat, k + 10 = z := ⟨_, rfl⟩
  have e1 : IntKind.i64.wrap (6 + (k : Int)) = ((6 + k : Nat) : Int) := by rw [IntWalk.i64_in _ (by omega)]; push_cast; rfl
  have e2 : IntKind.i64.wrap (((6 + k : Nat) : Int) + 4) = (z : Int) := by rw [IntWalk.i64_in _ (by omega), ← hz]; push_cast; omega
  have e3 : IntKind.i64.wrap (t + (z : Int)) = t + (z : Int) := IntWalk.i64_in _ (by omega)
  obtain ⟨q, hq⟩ : ∃ q : Nat, 6 + k = q := ⟨_, rfl⟩
  have h1 : decide (n < z) = false := decide_eq_false (by omega)
  obtain ⟨az, cz, tz, rz⟩ := run_slice_midN (P := Tryz.prog) Tryz.elem104 a n c 6 z (k + 4) (i := 6) (j := (z : Int)) rfl rfl (by omega) (by omega)
  obtain ⟨aq, cq, tq, rq⟩ := run_slice_midN (P := Tryz.prog) Tryz.elem104 a n c 6 q k (i := 6) (j := (q : Int)) rfl rfl (by omega) (by omega)
  obtain ⟨n', hn'⟩ : ∃ n', n' + z = n := ⟨n - z, by omega⟩
  obtain ⟨ax, cx, tx, rx⟩ := run_slice_from (P := Tryz.prog) Tryz.elem104 a n c z n' (i := (z : Int)) rfl hn'
  have HZ : Hid (Rds W R 1 az (k + 4) cz (byC (sealB x))) := hid (fun w' s' => by
    have h := ((hr w' s').short (k := z) (by omega)).tail (k := 6) (n' := k + 4) (by omega) tz
    rw [← p2, hz]; unfold byC at h ⊢; rw [Nat.mul_one, Nat.mul_one] at h; rw [List.map_drop, List.map_take]; exact h)
  have HQ : Hid (Rds W R 1 aq k cq (byC x)) := hid (fun w' s' => by
    have h := ((hr w' s').short (k := q) (by omega)).tail (k := 6) (n' := k) (by omega) tq
    have h2 := p3
    rw [hq] at h2
    rw [← h2]; unfold byC at h ⊢; rw [Nat.mul_one, Nat.mul_one] at h; rw [List.map_drop, List.map_take]; exact h)
  have HS : Hid (Sub (k + 10) a n c ax n' cx) := hid ⟨by omega, by rw [hz]; exact tx⟩
  have HZZ := hid hz
  rw [hq] at e1 e2
  have hn6 : 6 ≤ n := by omega
  have HX := hid p1; have HR := hid hr
  have hkb : (0 + k) * 1 ≤ 140737488355328 := by omega
  have hkm : 0 + k ≤ maxLen := by unfold maxLen; omega
  clear p1 p2 p3 p4 hl hle hz hq tz tq tx hn' hr hkk
  go_enter Tryz.func166, Tryz.ntmps166
  go_upto_region 7 with (go_at_call 202; refine size_c hn6 hm hk HX.out HR.out st ?_; rintro w3 s3; obtain ⟨l0, l1, c0, c1, f0, f1⟩ := RdrJ.ld s3)
  have hN : Nonempty (Cls (fun w' => St W w' (RdrJ T a n c t :: R))) := Cls.inh s3
  have g0 := fun s : Cls (fun w' => St W w' (RdrJ T a n c t :: R)) => (RdrJ.ld s.h).1
  refine wp_region_class (fun w' => St W w' (RdrJ T a n c t :: R)) (by kernel_rfl) (by kernel_rfl) s3.drew ?_
  repeat (go_big_quiet_step ((rename_i s; go_at_call 203; obtain ⟨m1, s1⟩ := RdrJ.open s.h; refine holds_c (ys := x) HZ.out.cons (by omega) s1 ?_; rintro w2 s2; exact Cls.end _ (RdrJ.close s2))))
  clear hN g0 l0 l1 c0 c1 f0 f1
  refine wpQuiet_nil ?_
  rintro ⟨w4, s4⟩
  dsimp only
  obtain ⟨l0, l1, c0, c1, f0, f1⟩ := RdrJ.ld s4
  have sE := OwnS.none0 (sz := 1) s4
  have rE := HQ.out.cons _ s4
  go_wp2_with (first
    | (at_builtin; refine wpl_append rfl (.const (.slice none 0 0)) (.tmp 43) rfl Tryz.elem104 rfl rfl sE rE hkb hkm ?_; rintro ba bc w5 s5; rw [Nat.zero_add]; rw [Nat.zero_add, List.nil_append] at s5
       have s5' := St.pick 1 s5
       obtain ⟨l0, l1, c0, c1, f0, f1⟩ := RdrJ.ld s5'
       have s6 := RdrJ.set0 (a' := ax) (n' := n') (c' := cx) s5'
       obtain ⟨m0, m1, d0, d1, g0, g1⟩ := RdrJ.ld s6
       have s7 := RdrJ.set1 (t' := t + (z : Int)) s6))
  exact HK.out _ _ _ _ _ _ HS.out (by rw [HZZ.out]; exact s7.pick 1)

/-! All records. -/
def Torn (b : List UInt8) : Prop := b.length < 6 ∨ ∃ k, (1 ≤ k ∧ k ≤ 512) ∧ b.take 6 = sealB (leB k 2) ∧ 6 ≤ b.length ∧ b.length < k + 10
def recsL (ls : List (List UInt8)) : List UInt8 := (ls.map recB).flatten
theorem recsL_cons (x : List UInt8) (ls : List (List UInt8)) : recsL (x :: ls) = recB x ++ recsL ls := by simp [recsL]
theorem recsL_len (ls : List (List UInt8)) : ls.length * 10 ≤ (recsL ls).length := by
  induction ls with
  | nil => simp
  | cons x ls ih => rw [recsL_cons, List.length_append, recB_len, List.length_cons]; omega
theorem recsL_take {ls : List (List UInt8)} {i : Nat} (h : i < ls.length) : (recsL (ls.take (i + 1))).length = (recsL (ls.take i)).length + (ls[i].length + 10) := by
  rw [List.take_succ_eq_append_getElem h]
  unfold recsL
  rw [List.map_append, List.flatten_append, List.length_append]
  simp [recB_len]

theorem RecsP.snoc {oa ba : Option Addr} {i oc k bc b : Nat} {ps : List PtV} {x : List UInt8} {cs : List Value} (s : St W w (OwnS 1 oa i oc (ps.map PtV.cell ++ [.slice ba k bc]) :: row b 0 cs :: (ps.map (fun x => OwnS 1 x.a x.n x.c (byC x.bs)) ++ (OwnS 1 ba k bc (byC x) :: R)))) :
    St W w (RecsP oa i oc (ps ++ [⟨ba, k, bc, x⟩]) :: R) := by
  have s1 := ((s.pick 1).drop)
  refine (St.flat _).2 ?_
  simpa [RecsP, PtV.cell] using s1
end

section
variable {W w : World} {R : List HP} {post : Ending → World → Prop} {T n c : Nat} {a : Option Addr} {t : Int} {xs : List UInt8}
set_option maxRecDepth 100000 in
set_option maxHeartbeats 16000000 in
theorem read_c {ls : List (List UInt8)} {tl : List UInt8} (hls : ∀ x ∈ ls, 1 ≤ x.length ∧ x.length ≤ 512) (htl : Torn tl) (hm : n ≤ 1048576) (hr : Rds W R 1 a n c (byC (recsL ls ++ tl))) (st : St W w R)
    (K : ∀ oa on oc w', St W w' (RecsH oa on oc ls :: R) → post (.returned (.tuple #[.slice oa on oc, .int .i64 ((recsL ls).length : Nat), .int .i64 0])) w') :
    Calls Tryz.prog 115 #[.slice a n c] w post := by
  have HK := hid K; clear K
  have HLS := hid hls; have HTL := hid htl
  have hln : (recsL ls).length + tl.length = n := by
    have := (hr _ st).len
    rw [byC_len, List.length_append] at this; omega
  have hl10 := recsL_len ls
  have HR0 : Hid (Rds W R 1 a n c (byC (recsL (ls.drop 0) ++ tl))) := hid hr
  have HLN := hid hln; have HL10 := hid hl10
  obtain ⟨N, hN⟩ : ∃ N, ls.length = N := ⟨_, rfl⟩
  have HNN := hid hN
  clear hls htl hln hl10 hr hN
  go_enter Tryz.func115, Tryz.ntmps115
  go_wp2_with (first
    | (refine wpl_build rfl rfl (v := .agg (rdrC a n c 0).toArray) (by kernel_rfl) ?_)
    | (refine wpl_boxA (vs := rdrC a n c 0) rfl (.tmp 10) rfl rfl st ?_; rintro T w1 s1'; have s1 : St W w1 (RdrJ T a n c 0 :: RecsP none 0 0 [] :: R) := St.pick 1 ((St.flat [OwnS 1 none 0 0 []]).2 (OwnS.none0 (RdrJ.start s1')))))
  go_loopw [6] (fun oo wr => ∃ (i : Nat) (oa : Option Addr) (oc : Nat) (ps : List PtV) (ai : Option Addr) (ni ci : Nat), i ≤ N ∧ oo = .slice oa i oc ∧ Hid (ps.map (·.bs) = ls.take i) ∧ Hid (Rds W R 1 ai ni ci (byC (recsL (ls.drop i) ++ tl))) ∧ ni ≤ 1048576 ∧ St W wr (RdrJ T ai ni ci ((recsL (ls.take i)).length : Nat) :: RecsP oa i oc ps :: R)) (fun oo _ => N - slen oo)
  case atStart => exact ⟨0, none, 0, [], a, n, c, Nat.zero_le _, rfl, hid (by simp), HR0, hm, by simpa [recsL] using s1⟩
  case round =>
    obtain ⟨i, oa, oc, ps, ai, ni, ci, hi, rfl, HP, HR, hni, sr⟩ := hrel
    by_cases hlt : i < N
    · have hiL : i < ls.length := by rw [HNN.out]; exact hlt
      have ed : ls.drop i = ls[i] :: ls.drop (i + 1) := List.drop_eq_getElem_cons hiL
      have et := recsL_take hiL
      have ets : ls.take (i + 1) = ls.take i ++ [ls[i]] := List.take_succ_eq_append_getElem hiL
      have hx := HLS.out _ (List.getElem_mem hiL)
      obtain ⟨x, hxx⟩ : ∃ x, ls[i] = x := ⟨_, rfl⟩
      rw [hxx] at ed et ets hx
      have hrr : Rds W R 1 ai ni ci (byC (recB x ++ (recsL (ls.drop (i + 1)) ++ tl))) := by
        have := HR.out
        rw [ed, recsL_cons, List.append_assoc] at this; exact this
      have hq : (recsL (ls.take i)).length ≤ 1048576 ∧ N ≤ 1048576 := by
        have h1 := HLN.out; have h2 := HL10.out; have h3 := HNN.out
        have h4 : (recsL ls).length = (recsL (ls.take i)).length + (recsL (ls.drop i)).length := by
          have : recsL ls = recsL (ls.take i) ++ recsL (ls.drop i) := by unfold recsL; rw [← List.flatten_append, ← List.map_append, List.take_append_drop]
          rw [this, List.length_append]
        omega
      obtain ⟨k, hk⟩ : ∃ k, x.length = k := ⟨_, rfl⟩
      obtain ⟨t, htt⟩ : ∃ t, (recsL (ls.take i)).length = t := ⟨_, rfl⟩
      rw [hk] at hx et
      rw [htt] at et hq sr
      have HKK := hid hk; have HRR := hid hrr; have HET := hid et; have HETS := hid ets
      have hb1 : (i + 1) * 24 ≤ 140737488355328 := by omega
      have hb2 : i + 1 ≤ maxLen := by unfold maxLen; omega
      have htb : (0 : Int) ≤ (t : Int) ∧ (t : Int) ≤ 1048576 := by omega
      clear ed et ets hxx hrr hk htt HR hiL
      go_wp2_with (first
        | (go_at_call 166; refine nextR_c HKK.out hx hni htb HRR.out.cons sr ?_; rintro ba bc ax n' cx w3 HS s3
           have HSU := hid HS
           have hn'2 : n' ≤ 1048576 := (by have := HS.1; omega)
           have s5 : St W w3 (OwnS 1 oa i oc (ps.map PtV.cell) :: (ps.map (fun x => OwnS 1 x.a x.n x.c (byC x.bs)) ++ (OwnS 1 ba k bc (byC x) :: RdrJ T ax n' cx ((t : Int) + (k + 10 : Nat)) :: R))) := (St.flat _).1 (St.pick 2 s3)
           have s6 := s5.alloc #[.slice ba k bc] 104
           have r6 := St.rowRd (sz := 1) (n := 1) s6 rfl (by decide) (by intro u hu; simp at hu; subst hu; rfl)
           have s7 := St.pick 1 s6
           clear HS)
        | (at_builtin; refine wpl_append rfl (.tmp 18) (.tmp 20) rfl elemLL rfl rfl s7 r6 hb1 hb2 ?_; rintro oa' oc' w8 s8))
      go_roundw
      case rel =>
        refine ⟨i + 1, oa', oc', ps ++ [⟨ba, k, bc, x⟩], ax, n', cx, by omega, rfl, hid ?_, hid ?_, hn'2, ?_⟩
        · rw [List.map_append, HP.out, HETS.out]; rfl
        · have h1 := Sub.rds HSU.out HRR.out
          have h2 := (rec_parts (x := x) (ys := recsL (ls.drop (i + 1)) ++ tl)).2.2.2
          rw [HKK.out] at h2
          rw [h2] at h1; exact h1
        · have h1 := RecsP.snoc s8
          rw [HET.out]
          have e : (((t + (k + 10) : Nat) : Nat) : Int) = (t : Int) + (k + 10 : Nat) := by push_cast; rfl
          rw [e]
          exact h1.pick 1
      case measure => simp [slen]; omega
    · have hie : i = N := by omega
      subst hie
      have hdr : recsL (ls.drop i) ++ tl = tl := by rw [List.drop_of_length_le (by rw [HNN.out]; exact Nat.le_refl _)]; rfl
      have hrr := HR.out
      rw [hdr] at hrr
      have hps := HP.out
      rw [List.take_of_length_le (by rw [HNN.out]; exact Nat.le_refl _)] at hps sr
      have hnl : tl.length = ni := by have := (hrr _ (sr.drop.drop)).len; rw [byC_len] at this; omega
      have HRR := hid hrr; have HPS := hid hps
      obtain ⟨t, htt⟩ : ∃ t, (recsL ls).length = t := ⟨_, rfl⟩
      have HTT := hid htt
      rw [htt] at sr
      have ht := HTL.out
      unfold Torn at ht
      rw [hnl] at ht
      clear hdr hrr hps hnl htt HR HP
      rcases ht with h6 | ⟨k, hk, hx, h6, hnk⟩
      · obtain ⟨l0, l1, c0, c1, f0, f1⟩ := RdrJ.ld sr
        go_wp2_with (go_at_call 166; refine nextS_c h6 sr ?_)
        go_quiet (fail)
        go_wp2_with fail
        go_ret3
        have := RecsH.close (sr.drop.drewN nq)
        rw [HPS.out] at this
        have hk2 := HK.out _ _ _ _ this
        rw [HTT.out] at hk2
        exact hk2
      · have HX := hid hx
        clear hx
        go_wp2_with (go_at_call 166; refine nextT_c h6 hnk hni hk HX.out HRR.out.cons sr ?_; rintro w3 s3; obtain ⟨l0, l1, c0, c1, f0, f1⟩ := RdrJ.ld s3)
        go_quiet (fail)
        go_wp2_with fail
        go_ret3
        have := RecsH.close (s3.drop.drewN nq)
        rw [HPS.out] at this
        have hk2 := HK.out _ _ _ _ this
        rw [HTT.out] at hk2
        exact hk2

set_option maxRecDepth 100000 in
set_option maxHeartbeats 4000000 in
/-- The journal of a disk that has records alone. -/
theorem jopensL {d : Nat} {D : DskV} {ls : List (List UInt8)} (ho : DskOK D) (hof : D.off = false) (hb : D.b = recsL ls) (hls : ∀ x ∈ ls, 1 ≤ x.length ∧ x.length ≤ 512) : JOpens d D D ls := by
  intro W w R post st K
  have HK := hid K; clear K
  have HB := hid hb; have HOF := hid hof; have HO := hid ho; have HLS := hid hls
  have hlen := ho.len
  obtain ⟨N, hN⟩ : ∃ N, D.b.length = N := ⟨_, rfl⟩
  rw [hN] at hlen
  have HNN := hid hN
  have HE : Hid ((recsL ls).length = N) := hid (by rw [← hN, hb])
  have HB2 : Hid (D.b = recsL ls ++ []) := hid (by rw [List.append_nil]; exact hb)
  have h1 : decide (N < N) = false := decide_eq_false (by omega)
  clear hb hof ho hls hN
  go_enter Tryz.func61, Tryz.ntmps61
  go_wp2_with (first
    | (go_at_call 114; refine dread_c HO.out HOF.out st ?_; rintro a1 n1 c1 w1 hn1 s1; rw [HNN.out] at hn1; subst hn1; rw [HB2.out] at s1)
    | (go_at_call 115; refine read_c HLS.out (.inl (by decide)) hlen (fun _ s => OwnS.rd s) s1 ?_; rintro oa on oc w2 s2; rw [HE.out])
    | (refine wpl_build rfl rfl (v := .agg [Value.pointer (some ⟨d, 0, none⟩), .int .i64 on].toArray) (by kernel_rfl) ?_)
    | (refine wpl_boxA (vs := [Value.pointer (some ⟨d, 0, none⟩), .int .i64 on]) rfl (.tmp 40) rfl rfl s2 ?_; rintro J w3 s3))
  go_ret3
  exact HK.out _ _ _ _ _ ((((JrnH.close s3).pick 2).drop).perm [0, 1])
end
end Go.Proofs.YtggbeedghblakaaGreatDoor
