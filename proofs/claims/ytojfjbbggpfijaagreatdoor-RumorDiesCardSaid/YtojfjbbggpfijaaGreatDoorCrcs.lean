/- Crcs: several texts, joined. Check sums: down, fill; sync.Once. -/
import Derived.Test.YtojfjbbggpfijaaGreatDoorOcts
import Derived.Test.YtojfjbbggpfijaaGreatDoorLibR
import Derived.Tactics2
import Derived.Defers
import Derived.Laws.Pointers
import Derived.Laws.LoneSync
import Derived.RegionTactic
import Derived.RegionCalls
import Derived.ChangeAlike
import Derived.Test.YtojfjbbggpfijaaGreatDoorKeys
namespace Go.Proofs.YtojfjbbggpfijaaGreatDoor
open Go.RowKit Go.Qd

theorem downN_lt {v : Nat} (h : v < 4294967296) : downN v < 4294967296 := by
  unfold downN
  split
  · exact Nat.xor_lt_two_pow (n := 32) (by omega) (by decide)
  · omega
theorem downsN_lt (k : Nat) : ∀ v, v < 4294967296 → downsN k v < 4294967296 := by
  induction k with
  | zero => intro v h; exact h
  | succ k ih => intro v h; exact ih _ (downN_lt h)
theorem downsN_step (k : Nat) : ∀ v, downsN (k + 1) v = downN (downsN k v) := by
  induction k with
  | zero => intro v; rw [downsN, downsN, downsN]
  | succ k ih => intro v; rw [downsN, ih, downsN]
def rowsC (i : Nat) : List Value := (List.range i).map (fun j => Value.int .u32 (rowN j : Nat)) ++ List.replicate (256 - i) (.int .u32 0)
theorem rowsC_len {i : Nat} (h : i ≤ 256) : (rowsC i).length = 256 := by unfold rowsC; simp; omega
theorem rowsC_set {i : Nat} (h : i < 256) : (rowsC i).set i (.int .u32 (rowN i : Nat)) = rowsC (i + 1) := by
  unfold rowsC
  have hl : ((List.range i).map (fun j => Value.int .u32 (rowN j : Nat))).length = i := by simp
  rw [List.set_append_right _ _ (by omega), hl, Nat.sub_self, List.range_succ, List.map_append, List.append_assoc]
  congr 1
  rw [show 256 - i = (256 - (i + 1)) + 1 from by omega, List.replicate_succ, List.set_cons_zero]
  rfl

section
variable {W w : World} {R : List HP} {post : Ending → World → Prop}

theorem down_c {v : Nat} (h : v < 4294967296) (K : post (.returned (.int .u32 (downN v : Nat))) w) : Calls Tryz.prog 242 #[.int .u32 v] w post := by
  have HK := K; clear K
  have ha : bits .and .u32 (v : Int) 1 = ((v % 2 : Nat) : Int) := by
    have := and32 (a := v) (b := 1) h (by decide)
    rw [Nat.and_one_is_mod] at this
    exact this
  unfold downN at HK
  by_cases h2 : v % 2 = 1
  · rw [if_pos h2] at HK
    have HK2 := hid HK; clear HK
    rw [h2] at ha
    have hx : bits .xor .u32 ((v : Int) / 2) 3988292384 = (((v / 2) ^^^ 3988292384 : Nat) : Int) := by
      have := xor32 (a := v / 2) (b := 3988292384) (by omega) (by decide)
      exact this
    clear h h2
    go_enter Tryz.func242, Tryz.ntmps242
    go_wp2_with fail
    exact HK2.out
  · rw [if_neg h2] at HK
    have HK2 := hid HK; clear HK
    have h0 : v % 2 = 0 := by omega
    rw [h0] at ha
    clear h h2 h0
    go_enter Tryz.func242, Tryz.ntmps242
    go_wp2_with fail
    exact HK2.out

set_option maxRecDepth 100000 in
set_option maxHeartbeats 4000000 in
theorem fill_c {T : Nat} {x y z : Value} (st : St W w (row T 0 (x :: y :: z :: rowsC 0) :: R))
    (K : ∀ w', St W w' (row T 0 (x :: y :: z :: rowsC 256) :: R) → post (.returned (.tuple #[])) w') : Calls Tryz.prog 239 #[.pointer (some ⟨T, 0, none⟩)] w post := by
  have HK := hid K; clear K
  go_enter Tryz.func239, Tryz.ntmps239
  go_wp2_with fail
  go_loopw [4] (fun ii wr => ∃ i : Nat, i ≤ 256 ∧ ii = .int .i64 i ∧ St W wr (row T 0 (x :: y :: z :: rowsC i) :: R)) (fun ii _ => 256 - (intOf ii).toNat)
  case atStart => exact ⟨0, Nat.zero_le _, rfl, st⟩
  case round =>
    obtain ⟨i, hi, rfl, sr⟩ := hrel
    by_cases hlt : i < 256
    · have hi2 : (i : Int) < 256 := by omega
      have hw : IntKind.u32.wrap (i : Int) = i := IntWalk.u32_in _ (by omega)
      go_wp2_with fail
      go_loopw [3, 9] (fun vv jj wx => ∃ j : Nat, j ≤ 8 ∧ jj = .int .i64 j ∧ vv = .int .u32 (downsN j i : Nat) ∧ wx = wr) (fun _ jj _ => 8 - (intOf jj).toNat)
      case atStart => exact ⟨0, by decide, rfl, rfl, rfl⟩
      case round =>
        obtain ⟨j, hj, rfl, rfl, rfl⟩ := hrel
        by_cases hlt2 : j < 8
        · have hj2 : (j : Int) < 8 := by omega
          have hd := downsN_lt j i (by omega)
          have HS := hid (downsN_step j i)
          obtain ⟨d, hdd⟩ : ∃ d, downsN j i = d := ⟨_, rfl⟩
          rw [hdd] at hd HS ⊢
          clear hdd
          go_wp2_with (go_at_call 242; refine down_c hd ?_)
          go_roundw
          case rel => exact ⟨j + 1, by omega, by go_num, by rw [HS.out], by trivial⟩
          case measure => simp [intOf]; omega
        · have hje : j = 8 := by omega
          subst hje
          have hlen : i + 3 < (x :: y :: z :: rowsC i).length := by simp only [List.length_cons, rowsC_len hi]; omega
          obtain ⟨u, hc⟩ : ∃ u, wr.cell? ⟨T, 0 + (i + 3), none⟩ = some u := ⟨_, sr.rowCell (List.getElem?_eq_getElem hlen)⟩
          have hf := sr.rowFree hlen
          have hs := sr.rowSet hlen (.int .u32 (rowN i : Nat))
          have e : (x :: y :: z :: rowsC i).set (i + 3) (.int .u32 (rowN i : Nat)) = x :: y :: z :: rowsC (i + 1) := by
            rw [List.set_cons_succ, List.set_cons_succ, List.set_cons_succ, rowsC_set hlt]
          rw [e] at hs
          rw [Nat.zero_add, Nat.add_comm i 3] at hc hf hs
          have HE : Hid (downsN 8 i = rowN i) := hid rfl
          obtain ⟨d, hdd⟩ : ∃ d, rowN i = d := ⟨_, rfl⟩
          rw [HE.out, hdd]
          rw [hdd] at hs
          clear hdd HE e hlen
          go_wp2_with fail
          go_roundw
          case rel => exact ⟨i + 1, by omega, by go_num, hs⟩
          case measure => simp [intOf]; omega
    · have hie : i = 256 := by omega
      subst hie
      go_wp2_with fail
      go_end0
      exact HK.out _ sr
end
end Go.Proofs.YtojfjbbggpfijaaGreatDoor

/- sync.Once, not yet done: the parts of its slow road. -/
namespace Go.Proofs.YtojfjbbggpfijaaGreatDoor
open Go.RowKit Go.Qd

theorem rdisable (w : World) : (callFunc 251 #[]).run Tryz.prog w = .ok (.value (.tuple #[])) w := run_call_mark0 Tryz.func251 (by kernel_rfl) (by kernel_rfl) (by kernel_rfl) .disable (by kernel_rfl) w
theorem renable (w : World) : (callFunc 253 #[]).run Tryz.prog w = .ok (.value (.tuple #[])) w := run_call_mark0 Tryz.func253 (by kernel_rfl) (by kernel_rfl) (by kernel_rfl) .enable (by kernel_rfl) w
theorem racquire (a : Addr) (w : World) : (callFunc 254 #[.pointer (some a)]).run Tryz.prog w = .ok (.value (.tuple #[])) w := run_call_marked Tryz.func254 (by kernel_rfl) (by kernel_rfl) (by kernel_rfl) .acquire (by kernel_rfl) a w
theorem rrelease (a : Addr) (w : World) : (callFunc 256 #[.pointer (some a)]).run Tryz.prog w = .ok (.value (.tuple #[])) w := run_call_marked Tryz.func256 (by kernel_rfl) (by kernel_rfl) (by kernel_rfl) .releaseMerge (by kernel_rfl) a w

/-- '(*sync/atomic.Bool).Store(true)', entered as a deferred call. -/
theorem store_deferred (a : Addr) (x : Value) (u : FrameMode) (w : World) (hc : w.cell? a = some x) (hz : w.frozen? a = false) :
    CallsD Tryz.prog 246 #[.pointer (some a), .bool true] u w fun e u' w' => u' = u ∧ (e = .returned (.tuple #[]) ∧ w' = w.drew.setCell a (.int .u32 1)) := by
  have hc' : w.drew.cell? a = some x := by go_simp
  have hz' : w.drew.frozen? a = false := by go_simp
  have hst := run_call_store (P := Tryz.prog) Tryz.func249 (by kernel_rfl) (by kernel_rfl) (by kernel_rfl) (by kernel_rfl) (k := .u32) (y := 1) hc' hz'
  go_enter_d Tryz.func246, Tryz.ntmps246
  go_wp2
  go_region_calls
  all_goals (go_end0; exact ⟨rfl, rfl⟩)

set_option maxRecDepth 100000 in
set_option maxHeartbeats 1600000 in
/-- '(*sync.Mutex).Unlock', entered as a deferred call, the lock held and nobody waiting. -/
theorem unlock_deferred (a : Addr) (u : FrameMode) (w : World) (hc : w.cell? a = some (.int .i32 1)) (hz : w.frozen? a = false) :
    CallsD Tryz.prog 245 #[.pointer (some a)] u w fun e u' w' => u' = u ∧ (e = .returned (.tuple #[]) ∧ w' = w.setCell a (.int .i32 0)) := by
  have hd := rdisable
  have he := renable
  have hr := rrelease
  have hadd := run_call_add (P := Tryz.prog) Tryz.func257 (by kernel_rfl) (by kernel_rfl) (by kernel_rfl) .i32 (by kernel_rfl) (y := -1) (s := 0) hc hz (by simp [go_sem]; rfl)
  have hcv := run_convert_to_unsafe (P := Tryz.prog) (src := 374) (dst := 378) Tryz.underlying374 Tryz.underlying378 (by kernel_rfl) hc
  go_enter_d Tryz.func245, Tryz.ntmps245
  go_wp2
  go_end0
  go_wp2
  go_end0
  exact ⟨rfl, rfl⟩

set_option maxRecDepth 100000 in
set_option maxHeartbeats 1600000 in
/-- '(*sync.Mutex).Lock', the lock free. -/
theorem lock_free (a : Addr) (w : World) (hc : w.cell? a = some (.int .i32 0)) (hz : w.frozen? a = false) :
    Calls Tryz.prog 244 #[.pointer (some a)] w fun e w' => e = .returned (.tuple #[]) ∧ w' = w.setCell a (.int .i32 1) := by
  have hd := rdisable
  have he := renable
  have ha := racquire
  have hcas := run_call_cas_hit (P := Tryz.prog) Tryz.func252 (by kernel_rfl) (by kernel_rfl) (by kernel_rfl) .i32 (by kernel_rfl) (y := 1) hc hz
  have hc' : (w.setCell a (.int .i32 1)).cell? a = some (.int .i32 1) := World.cell?_setCell_same w a _ hc
  have hcv := run_convert_to_unsafe (P := Tryz.prog) (src := 374) (dst := 378) Tryz.underlying374 Tryz.underlying378 (by kernel_rfl) hc'
  go_enter Tryz.func244, Tryz.ntmps244
  go_wp2
  first | go_end0 | (simp only [Exit.inBlock, Exit.then]; refine bodyPost_ret (results_none rfl _ _ _) rfl ?_) | refine bodyPost_ret (results_none rfl _ _ _) rfl ?_
  go_wp2
  go_end0
  exact ⟨rfl, rfl⟩

section
variable {W w : World} {R : List HP} {post : Ending → World → Prop}

theorem onceRow {T : Nat} {x y z : Value} {cs : List Value} (s : St W w (row T 0 (x :: y :: z :: cs) :: R)) : w.cell? ⟨T, 0, none⟩ = some x ∧ w.cell? ⟨T, 1, none⟩ = some y ∧ w.frozen? ⟨T, 0, none⟩ = false ∧ w.frozen? ⟨T, 1, none⟩ = false :=
  ⟨s.rowCell (i := 0) rfl, by have := s.rowCell (i := 1) (v := y) rfl; rwa [Nat.zero_add] at this, s.rowFree (i := 0) (by simp), by have := s.rowFree (i := 1) (by simp); rwa [Nat.zero_add] at this⟩

set_option maxRecDepth 100000 in
set_option maxHeartbeats 1600000 in
theorem slow_c {T : Nat} {z : Value} (st : St W w (row T 0 (.int .u32 0 :: .int .i32 0 :: z :: rowsC 0) :: R))
    (K : ∀ w', St W w' (row T 0 (.int .u32 1 :: .int .i32 0 :: z :: rowsC 256) :: R) → post (.returned (.tuple #[])) w') :
    Calls Tryz.prog 241 #[.pointer (some ⟨T, 0, none⟩), .func (.func 239) #[.pointer (some ⟨T, 0, none⟩)] #[]] w post := by
  have HK := hid K; clear K
  obtain ⟨c0, c1, f0, f1⟩ := onceRow st
  have s2 : St W (w.setCell ⟨T, 1, none⟩ (.int .i32 1)) (row T 0 (.int .u32 0 :: .int .i32 1 :: z :: rowsC 0) :: R) := by
    have := st.rowSet (i := 1) (by simp) (.int .i32 1); rwa [Nat.zero_add] at this
  obtain ⟨d0, d1, e0, e1⟩ := onceRow s2
  have hl := run_call_load (P := Tryz.prog) Tryz.func243 (by kernel_rfl) (by kernel_rfl) (by kernel_rfl) .u32 (by kernel_rfl) d0
  have hnot : ∀ (x : Bool) (w : World), (Op.unary .not (.bool x)).run Tryz.prog w = .ok (.bool (!x)) w := fun _ _ => rfl
  have HS2 := hid s2
  go_enter_defers Tryz.func241, Tryz.ntmps241
  go_wp2_with (first
    | (go_at_call 244; refine (lock_free ⟨T, 1, none⟩ _ (by go_simp) (by go_simp)).mono ?_; rintro e w' ⟨rfl, rfl⟩)
    | (go_at_call 240; go_in)
    | (go_at_call 239; refine fill_c HS2.out ?_; rintro w3 s3))
  go_wp2
  obtain ⟨k0, k1, l0, l1⟩ := onceRow s3
  refine leaves_cons (f := 246) (args := #[.pointer (some ⟨T, 0, none⟩), .bool true]) (by simp) (by simp [go_sem]) ?_
  refine (store_deferred ⟨T, 0, none⟩ (.int .u32 0) .returning _ k0 l0).mono ?_
  rintro e u' w'' ⟨rfl, rfl, rfl⟩
  have s4 : St W (w3.drew.setCell ⟨T, 0, none⟩ (.int .u32 1)) (row T 0 (.int .u32 1 :: .int .i32 1 :: z :: rowsC 256) :: R) := s3.drew.rowSet (i := 0) (by simp) (.int .u32 1)
  obtain ⟨m0, m1, n0, n1⟩ := onceRow s4
  refine leaves_cons (f := 245) (args := #[.pointer (some ⟨T, 1, none⟩)]) (by simp [settle]) (by simp [go_sem]) ?_
  refine (unlock_deferred ⟨T, 1, none⟩ _ _ m1 n1).mono ?_
  rintro e u' w'' ⟨rfl, rfl, rfl⟩
  have s5 : St W ((w3.drew.setCell ⟨T, 0, none⟩ (.int .u32 1)).setCell ⟨T, 1, none⟩ (.int .i32 0)) (row T 0 (.int .u32 1 :: .int .i32 0 :: z :: rowsC 256) :: R) := by
    have := s4.rowSet (i := 1) (by simp) (.int .i32 0); rwa [Nat.zero_add] at this
  have HK2 := HK.out _ s5
  simp [Leaves, settle, results, Tryz.results241]
  exact HK2

/-- A table, its rows made or not yet. -/
def CrcT (T : Nat) (made : Bool) : HP := if made then row T 0 (.int .u32 1 :: .int .i32 0 :: .int .u32 0 :: rowsC 256) else row T 0 (.int .u32 0 :: .int .i32 0 :: .int .u32 0 :: rowsC 0)

set_option maxRecDepth 100000 in
set_option maxHeartbeats 1600000 in
theorem once_c {T : Nat} {m : Bool} (st : St W w (CrcT T m :: R))
    (K : ∀ w', St W w' (CrcT T true :: R) → post (.returned (.tuple #[])) w') :
    Calls Tryz.prog 238 #[.pointer (some ⟨T, 0, none⟩), .func (.func 239) #[.pointer (some ⟨T, 0, none⟩)] #[]] w post := by
  have HK := hid K; clear K
  cases m with
  | false =>
    have s : St W w (row T 0 (.int .u32 0 :: .int .i32 0 :: .int .u32 0 :: rowsC 0) :: R) := st
    obtain ⟨c0, c1, f0, f1⟩ := onceRow s
    have hl := run_call_load (P := Tryz.prog) Tryz.func243 (by kernel_rfl) (by kernel_rfl) (by kernel_rfl) .u32 (by kernel_rfl) c0
    have hnot : ∀ (x : Bool) (w : World), (Op.unary .not (.bool x)).run Tryz.prog w = .ok (.bool (!x)) w := fun _ _ => rfl
    go_enter Tryz.func238, Tryz.ntmps238
    go_wp2_with (first
      | (go_at_call 240; go_in)
      | (go_at_call 241; refine slow_c s ?_; rintro w2 s2))
    go_end0
    exact HK.out _ s2
  | true =>
    have s : St W w (row T 0 (.int .u32 1 :: .int .i32 0 :: .int .u32 0 :: rowsC 256) :: R) := st
    obtain ⟨c0, c1, f0, f1⟩ := onceRow s
    have hl := run_call_load (P := Tryz.prog) Tryz.func243 (by kernel_rfl) (by kernel_rfl) (by kernel_rfl) .u32 (by kernel_rfl) c0
    have hnot : ∀ (x : Bool) (w : World), (Op.unary .not (.bool x)).run Tryz.prog w = .ok (.bool (!x)) w := fun _ _ => rfl
    go_enter Tryz.func238, Tryz.ntmps238
    go_wp2_with (go_at_call 240; go_in)
    go_end0
    exact HK.out _ st
end
end Go.Proofs.YtojfjbbggpfijaaGreatDoor

/- Check sums of bytes: More, Of, Mark. -/
namespace Go.Proofs.YtojfjbbggpfijaaGreatDoor
open Go.RowKit Go.Qd

theorem rowN_lt {i : Nat} (h : i < 256) : rowN i < 4294967296 := downsN_lt 8 i (by omega)
theorem crcS_lt {v : Nat} (h : v < 4294967296) (c : UInt8) : crcS v c < 4294967296 := by
  unfold crcS
  refine Nat.xor_lt_two_pow (n := 32) ?_ (by omega)
  exact rowN_lt (Nat.xor_lt_two_pow (n := 8) (by omega) (by have := c.toNat_lt; omega))
theorem crcF_lt (l : List UInt8) : ∀ v, v < 4294967296 → l.foldl crcS v < 4294967296 := by
  induction l with
  | nil => intro v h; exact h
  | cons c l ih => intro v h; exact ih _ (crcS_lt h c)
theorem crcMore_lt (s : Nat) (l : List UInt8) : crcMore s l < 4294967296 := by unfold crcMore; omega
theorem rowsC_get {i : Nat} (h : i < 256) : (rowsC 256)[i]? = some (.int .u32 (rowN i : Nat)) := by
  unfold rowsC
  rw [List.getElem?_append_left (by simp; omega)]
  simp [h]

theorem not_xor {v : Nat} (h : v < 4294967296) : 4294967295 ^^^ v = 4294967295 - v := by
  have h1 := BitVec.toNat_not (x := BitVec.ofNat 32 v)
  rw [BitVec.not_def, BitVec.toNat_xor, BitVec.toNat_ofNat, Nat.mod_eq_of_lt (show v < 2 ^ 32 by omega)] at h1
  exact h1
theorem not32 {v : Nat} (h : v < 4294967296) : bits .xor .u32 IntKind.u32.max (v : Int) = ((4294967295 - v : Nat) : Int) := by
  rw [← not_xor h, ← xor32 (by decide) h]; rfl

section
variable {W w : World} {R : List HP} {post : Ending → World → Prop}

set_option maxRecDepth 100000 in
set_option maxHeartbeats 4000000 in
theorem more_c {T sum : Nat} {m : Bool} {a : Option Addr} {n c : Nat} {bs : List UInt8} (hs : sum < 4294967296) (hp : Rds W R 1 a n c (byC bs)) (st : St W w (CrcT T m :: R))
    (K : ∀ w', St W w' (CrcT T true :: R) → post (.returned (.int .u32 (crcMore sum bs : Nat))) w') :
    Calls Tryz.prog 234 #[.pointer (some ⟨T, 0, none⟩), .int .u32 sum, .slice a n c] w post := by
  have HK := hid K; clear K
  have HL : Hid (bs.length = n) := hid (by have := (hp w st.drop).len; rw [byC_len] at this; omega)
  have hmax := (hp w st.drop).big
  have hn1 := not32 hs
  go_enter Tryz.func234, Tryz.ntmps234
  go_wp2_with (go_at_call 238; refine once_c st ?_; rintro w1 s1)
  go_loopw [7, 20] (fun vv ii wr => ∃ i : Nat, i ≤ n ∧ ii = .int .i64 i ∧ vv = .int .u32 ((bs.take i).foldl crcS (4294967295 - sum) : Nat) ∧ wr = w1) (fun _ ii _ => n - (intOf ii).toNat)
  case atStart => exact ⟨0, Nat.zero_le _, rfl, by rw [List.take_zero, List.foldl_nil], rfl⟩
  case round =>
    obtain ⟨i, hi, rfl, rfl, rfl⟩ := hrel
    by_cases hlt : i < n
    · have hib : i < bs.length := by rw [HL.out]; exact hlt
      have rd := hp _ s1.drop
      obtain ⟨g, o, rfl⟩ := rd.addr (by omega)
      have hcell := rd.at (i := i) (u := .int .u8 (bs[i].toNat : Int)) (by simp [byC, hib])
      have HS : Hid ((bs.take (i + 1)).foldl crcS (4294967295 - sum) = crcS ((bs.take i).foldl crcS (4294967295 - sum)) bs[i]) := hid (by rw [List.take_succ_eq_append_getElem hib, List.foldl_append, List.foldl_cons, List.foldl_nil])
      obtain ⟨x, hx⟩ : ∃ x, bs[i] = x := ⟨_, rfl⟩
      rw [hx] at hcell HS
      have hx8 := x.toNat_lt
      obtain ⟨v, hv⟩ : ∃ v, (bs.take i).foldl crcS (4294967295 - sum) = v := ⟨_, rfl⟩
      have hv32 : v < 4294967296 := by rw [← hv]; exact crcF_lt _ _ (by omega)
      rw [hv] at HS ⊢
      clear hx hv rd
      obtain ⟨q, hq⟩ : ∃ q, (v % 256) ^^^ x.toNat = q := ⟨_, rfl⟩
      have hq8 : q < 256 := by rw [← hq]; exact Nat.xor_lt_two_pow (n := 8) (by omega) (by omega)
      have hx1 : bits .xor .u8 ((v : Int) % 256) (x.toNat : Int) = (q : Int) := by
        rw [← hq, ← xor8 (by omega) (by omega)]; rfl
      have s0 : St W wr (row T 0 (.int .u32 1 :: .int .i32 0 :: .int .u32 0 :: rowsC 256) :: R) := s1
      have hrow : wr.cell? ⟨T, 3 + q, none⟩ = some (.int .u32 (rowN q : Nat)) := by
        have := s0.rowCell (i := q + 3) (v := .int .u32 (rowN q : Nat)) (by show (rowsC 256)[q]? = _; exact rowsC_get hq8)
        rwa [Nat.zero_add, Nat.add_comm] at this
      have hr32 := rowN_lt hq8
      have HC : Hid (crcS v x = rowN q ^^^ (v / 256)) := hid (by unfold crcS; rw [hq])
      obtain ⟨r, hr⟩ : ∃ r, rowN q = r := ⟨_, rfl⟩
      rw [hr] at hrow hr32 HC
      have hx2 : bits .xor .u32 (r : Int) ((v : Int) / 256) = ((r ^^^ (v / 256) : Nat) : Int) := by
        rw [← xor32 hr32 (by omega)]; rfl
      clear hq hr s0
      have hi2 : (i : Int) < (n : Int) := by omega
      go_wp2_with fail
      go_roundw
      case rel => exact ⟨i + 1, by omega, by go_num, by rw [HS.out, HC.out], by trivial⟩
      case measure => simp [intOf]; omega
    · have hie : i = n := by omega
      subst hie
      have hfull : bs.take i = bs := List.take_of_length_le (by rw [HL.out]; exact Nat.le_refl _)
      rw [hfull]
      have HK3 := hid (HK.out _ s1)
      unfold crcMore at HK3
      have hlt2 := crcF_lt bs (4294967295 - sum) (by omega)
      obtain ⟨v, hv⟩ : ∃ v, bs.foldl crcS (4294967295 - sum) = v := ⟨_, rfl⟩
      rw [hv] at hlt2 HK3 ⊢
      have hn2 := not32 hlt2
      clear hv hfull
      go_wp2_with fail
      exact HK3.out

set_option maxRecDepth 100000 in
set_option maxHeartbeats 4000000 in
theorem of1_c {T B : Nat} {m : Bool} {a : Option Addr} {n c : Nat} {bs : List UInt8} (hp : Rds W R 1 a n c (byC bs)) (st : St W w (CrcT T m :: row B 0 [.slice a n c] :: R))
    (K : ∀ w', St W w' (CrcT T true :: row B 0 [.slice a n c] :: R) → post (.returned (.int .u32 (crcMore 0 bs : Nat))) w') :
    Calls Tryz.prog 229 #[.pointer (some ⟨T, 0, none⟩), .slice (some ⟨B, 0, none⟩) 1 1] w post := by
  have HK := hid K; clear K
  go_enter Tryz.func229, Tryz.ntmps229
  go_wp2_with fail
  go_loopw [5, 10] (fun vv ii wr => (ii = .int .i64 0 ∧ vv = .int .u32 0 ∧ wr = w) ∨ (ii = .int .i64 1 ∧ vv = .int .u32 (crcMore 0 bs : Nat) ∧ St W wr (CrcT T true :: row B 0 [.slice a n c] :: R))) (fun _ ii _ => 1 - (intOf ii).toNat)
  case atStart => exact .inl ⟨rfl, rfl, rfl⟩
  case round =>
    rcases hrel with ⟨rfl, rfl, rfl⟩ | ⟨rfl, rfl, sr⟩
    · have hc := (St.pick 1 st).rowCell (i := 0) rfl
      go_wp2_with (go_at_call 234; refine more_c (sum := 0) (by decide) hp.cons st ?_; rintro w2 s2)
      go_roundw
      case rel => exact .inr ⟨rfl, rfl, s2⟩
      case measure => simp [intOf]
    · go_wp2_with fail
      exact HK.out _ sr

theorem leB4 {v : Nat} (h : v < 4294967296) : byC (leB v 4) = [Value.int .u8 ((v : Int) % 256), .int .u8 ((v : Int) / 256 % 256), .int .u8 ((v : Int) / 65536 % 256), .int .u8 ((v : Int) / 16777216)] := by
  have e : leB v 4 = [UInt8.ofNat (v / 256 ^ 0), UInt8.ofNat (v / 256 ^ 1), UInt8.ofNat (v / 256 ^ 2), UInt8.ofNat (v / 256 ^ 3)] := rfl
  rw [e]
  simp only [byC, List.map_cons, List.map_nil, UInt8.toNat_ofNat']
  have h4 : v / 256 ^ 3 % 2 ^ 8 = v / 16777216 := by omega
  rw [h4]
  simp

set_option maxRecDepth 100000 in
set_option maxHeartbeats 4000000 in
theorem cmark_c {T : Nat} {m : Bool} {a : Option Addr} {n c : Nat} {bs : List UInt8} (hp : Rds W R 1 a n c (byC bs)) (hn : n ≤ 1048576) (st : St W w (CrcT T m :: R))
    (K : ∀ a' n' c' w', n' = (sealB bs).length → St W w' (OwnS 1 a' n' c' (byC (sealB bs)) :: CrcT T true :: R) → post (.returned (.slice a' n' c')) w') :
    Calls Tryz.prog 209 #[.pointer (some ⟨T, 0, none⟩), .slice a n c] w post := by
  have HK := hid K; clear K
  have HL : Hid (bs.length = n) := hid (by have := (hp w st.drop).len; rw [byC_len] at this; omega)
  have s1 := st.alloc #[.slice a n c] 163
  have s2 := s1.perm [1, 0]
  obtain ⟨v, hv⟩ : ∃ v, crcMore 0 bs = v := ⟨_, rfl⟩
  have hv32 : v < 4294967296 := by rw [← hv]; exact crcMore_lt _ _
  have HV := hid hv
  have HB := hid (leB4 hv32)
  clear hv
  go_enter Tryz.func209, Tryz.ntmps209
  go_wp2_with (first
    | (go_at_call 229; refine of1_c hp s2 ?_; rintro w3 s3; rw [HV.out])
    | (go_at_call 157; refine cloneU_c s3 (hp.cons.cons _ s3) (by omega) ?_; rintro a4 c4 w4 s4
       have s5 := s4.alloc #[.int .u8 ((v : Int) % 256), .int .u8 ((v : Int) / 256 % 256), .int .u8 ((v : Int) / 65536 % 256), .int .u8 ((v : Int) / 16777216)] 5
       have r5 := St.rowRd (sz := 1) (n := 4) s5 rfl (by decide) (by rw [← HB.out]; exact byC_one _)
       have s6 := St.pick 1 s5)
    | (at_builtin; go_loud (refine wpl_append rfl (.tmp 11) (.tmp 23) rfl Tryz.elem163 rfl rfl s6 r5 (by omega) (by unfold maxLen; omega) ?_; rintro a7 c7 w7 s7)))
  have e : byC bs ++ [Value.int .u8 ((v : Int) % 256), .int .u8 ((v : Int) / 256 % 256), .int .u8 ((v : Int) / 65536 % 256), .int .u8 ((v : Int) / 16777216)] = byC (sealB bs) := by
    rw [← HB.out, ← byC_app]; unfold sealB; rw [HV.out]
  rw [e] at s7
  exact HK.out _ _ _ _ (by rw [sealB_len, HL.out]) ((s7.perm [1, 2, 0, 0]).dropN 2)
end
end Go.Proofs.YtojfjbbggpfijaaGreatDoor
