/- Recs: several texts, joined. Readers of bytes: Read, has, take, Number, Flag, Text, Err, Done: where all goes well. -/
import Derived.Test.YtggbeedghblakaaGreatDoorOcts
import Derived.Deep.RegionLaw
import Derived.Laws.BytesArg
import Derived.Test.YtggbeedghblakaaGreatDoorRepsT
namespace Go.Proofs.YtggbeedghblakaaGreatDoor
open Go.RowKit Go.Qd Go.Op

/-- A slice is another one's tail from k on. -/
def Sub (k : Nat) (ax : Option Addr) (m cx : Nat) (ax' : Option Addr) (m' cx' : Nat) : Prop := m' + k = m ∧ TailOf 1 ax k cx ax' cx'
theorem Sub.rds {W : World} {R : List HP} {k m cx m' cx' : Nat} {ax ax' : Option Addr} {xs : List UInt8} (h : Sub k ax m cx ax' m' cx') (hr : Rds W R 1 ax m cx (byC xs)) : Rds W R 1 ax' m' cx' (byC (xs.drop k)) := fun w s => by
  have := (hr w s).tail h.1 h.2
  rw [Nat.mul_one] at this
  unfold byC at this ⊢
  rwa [List.map_drop]

section
attribute [local go_sem ↓] execOp_ldAny
variable {W w : World} {R : List HP} {post : Ending → World → Prop} {b m cx : Nat} {ax : Option Addr} {xs : List UInt8}

/-- A reader's cells. -/
def octC (ax : Option Addr) (m cx : Nat) : List Value := [.int .i64 0, .slice ax m cx]
theorem rdrLd (s : St W w (row b 0 (octC ax m cx) :: R)) : (loadG 27 (.pointer (some ⟨b, 0, none⟩))).run Tryz.prog w = .ok (.int .i64 0) w ∧ (loadG 104 (.pointer (some ⟨b, 1, none⟩))).run Tryz.prog w = .ok (.slice ax m cx) w := by
  obtain ⟨h0, h1, _⟩ := rowTwo s
  rw [Nat.zero_add] at h1
  exact ⟨run_ldP (by kernel_rfl) h0, run_ldP (by kernel_rfl) h1⟩

set_option maxRecDepth 100000 in
theorem rhas_ok {k : Nat} (hk : k ≤ m) (st : St W w (row b 0 (octC ax m cx) :: R)) (K : post (.returned (.bool true)) w) :
    Calls Tryz.prog 228 #[.pointer (some ⟨b, 0, none⟩), .int .i64 k] w post := by
  have HK := hid K; clear K
  obtain ⟨l0, l1⟩ := rdrLd st
  have d1 : decide ((k : Int) > (m : Int)) = false := decide_eq_false (by omega)
  go_enter Tryz.func228, Tryz.ntmps228
  go_wp2_with fail
  exact HK.out

set_option maxRecDepth 100000 in
set_option maxHeartbeats 2000000 in
theorem rtake_c {k : Nat} (hk : k ≤ m) (hm : m ≤ 1048576) (hr : Rds W R 1 ax m cx (byC xs)) (st : St W w (row b 0 (octC ax m cx) :: R))
    (K : ∀ a c ax' m' cx' w', Sub k ax m cx ax' m' cx' → St W w' (OwnS 1 a k c (byC (xs.take k)) :: row b 0 (octC ax' m' cx') :: R) → post (.returned (.slice a k c)) w') :
    Calls Tryz.prog 229 #[.pointer (some ⟨b, 0, none⟩), .int .i64 k] w post := by
  have HK := hid K; clear K
  obtain ⟨l0, l1⟩ := rdrLd st
  have rd := hr _ st.drop
  have hle := rd.le
  have hs2 := run_slice_to (P := Tryz.prog) Tryz.elem104 ax m cx k (by omega)
  have rdk := rd.short hk
  rw [Nat.mul_one] at rdk
  have e1 : (byC xs).take k = byC (xs.take k) := by unfold byC; rw [List.map_take]
  rw [e1] at rdk
  have hkb : k * 1 ≤ 140737488355328 := by omega
  obtain ⟨m', hm'⟩ : ∃ m', m' + k = m := ⟨m - k, by omega⟩
  obtain ⟨ax', cx', ht, hsl⟩ := run_slice_from (P := Tryz.prog) Tryz.elem104 ax m cx k m' (i := (k : Int)) rfl hm'
  have HS : Hid (Sub k ax m cx ax' m' cx') := hid ⟨hm', ht⟩
  clear rd hm' ht hle e1 hr
  go_enter Tryz.func229, Tryz.ntmps229
  go_wp2_with (go_at_call 165; refine cloneU_c st rdk hkb ?_; rintro a7 c7 w7 s7; obtain ⟨k0, k1⟩ := rdrLd (St.pick 1 s7); obtain ⟨j0, j1, j2, j3⟩ := rowTwo0 (St.pick 1 s7))
  exact HK.out _ _ _ _ _ _ HS.out (by
    have := (St.pick 1 s7).rowSet (i := 1) (by simp [octC]) (.slice ax' m' cx')
    rw [Nat.zero_add] at this
    exact this.perm [1])

theorem leB_get {v k i : Nat} (h : i < k) : (byC (leB v k))[i]? = some (.int .u8 ((v / 256 ^ i % 256 : Nat) : Int)) := by
  unfold byC leB
  simp [h, UInt8.toNat_ofNat']

theorem or64 {a b : Nat} (ha : a < 2 ^ 64) (hb : b < 2 ^ 64) : bits .or .u64 (a : Int) (b : Int) = ((a ||| b : Nat) : Int) := by
  have h : a ||| b < 2 ^ 64 := Nat.or_lt_two_pow ha hb
  have hk : IntKind.u64.bits = 64 := rfl
  unfold bits
  simp only [hk, BitVec.ofInt_natCast, BitVec.toNat_or, BitVec.toNat_ofNat, Nat.mod_eq_of_lt ha, Nat.mod_eq_of_lt hb]
  exact IntWalk.u64_in _ (by omega)
theorem or_byte {v i x y : Nat} (hi : i ≤ 6) (hx : v / 256 ^ i % 256 = x) (hy : v % 256 ^ i = y) : bits BinOp.or IntKind.u64 (y : Int) (IntKind.u64.wrap ((x : Int) * 2 ^ (8 * i))) = ((v % 256 ^ (i + 1) : Nat) : Int) := by
  have hxl : x < 256 := by rw [← hx]; exact Nat.mod_lt _ (by decide)
  have hp : (256 : Nat) ^ i = 2 ^ (8 * i) := (pow256 i).symm
  have hyl : y < 2 ^ (8 * i) := by rw [← hy, ← hp]; exact Nat.mod_lt _ (Nat.pow_pos (by decide))
  have e1 : v % 256 ^ (i + 1) = 2 ^ (8 * i) * x + y := by rw [Nat.pow_succ, Nat.mod_mul, hx, hy, hp]; omega
  have hb : (2 : Nat) ^ (8 * i) ≤ 2 ^ 48 := Nat.pow_le_pow_right (by decide) (by omega)
  have hb2 : 2 ^ (8 * i) * x ≤ 2 ^ 48 * 255 := Nat.mul_le_mul hb (by omega)
  have e2 : ((x : Int) * 2 ^ (8 * i)) = ((2 ^ (8 * i) * x : Nat) : Int) := by push_cast; rw [Int.mul_comm]
  rw [e2, IntWalk.u64_in _ (by omega), e1, Nat.two_pow_add_eq_or_of_lt hyl, Nat.or_comm]
  exact or64 (by omega) (by omega)

set_option maxRecDepth 100000 in
set_option maxHeartbeats 2000000 in
theorem rnumber_c {k v : Nat} (hk : k ≤ m) (h1 : 1 ≤ k ∧ k ≤ 7) (hm : m ≤ 1048576) (hx : xs.take k = leB v k) (hv : v < 256 ^ k) (hr : Rds W R 1 ax m cx (byC xs)) (st : St W w (row b 0 (octC ax m cx) :: R))
    (K : ∀ ax' m' cx' w', Sub k ax m cx ax' m' cx' → St W w' (row b 0 (octC ax' m' cx') :: R) → post (.returned (.int .u64 v)) w') :
    Calls Tryz.prog 207 #[.pointer (some ⟨b, 0, none⟩), .int .i64 k] w post := by
  have HK := hid K; clear K
  have HX := hid hx
  have d1 : decide ((k : Int) < 1) = false := decide_eq_false (by omega)
  have d2 : decide ((k : Int) > 8) = false := decide_eq_false (by omega)
  have HV := hid hv
  clear hx hv
  go_enter Tryz.func207, Tryz.ntmps207
  go_wp2_with (first
    | (go_at_call 228; refine rhas_ok hk st ?_)
    | (go_at_call 229; refine rtake_c hk hm hr st ?_; rintro a3 c3 ax' m' cx' w3 HS s3; rw [HX.out] at s3))
  have HSU := hid HS
  clear HS
  go_loopw [5, 26] (fun vv iv wr => ∃ i : Nat, i ≤ k ∧ iv = .int .i64 i ∧ vv = .int .u64 ((v % 256 ^ i : Nat) : Int) ∧ St W wr (OwnS 1 a3 k c3 (byC (leB v k)) :: row b 0 (octC ax' m' cx') :: R)) (fun _ iv _ => k - (intOf iv).toNat)
  case atStart => exact ⟨0, Nat.zero_le _, rfl, by simp [Nat.mod_one], s3⟩
  case round =>
    obtain ⟨i, hi, rfl, rfl, sr⟩ := hrel
    by_cases hlt : i < k
    · have hi2 : (i : Int) < (k : Int) := by omega
      have rdr := OwnS.rd sr
      obtain ⟨g3, o3, rfl⟩ := rdr.addr (by omega)
      have ci := run_ldP (t := 5) (by kernel_rfl) (rdr.at (leB_get hlt))
      have w8 : IntKind.i64.wrap (8 * (i : Int)) = 8 * (i : Int) := IntWalk.i64_in _ (by omega)
      obtain ⟨x, hx⟩ : ∃ x, v / 256 ^ i % 256 = x := ⟨_, rfl⟩
      have hxl : x < 256 := by rw [← hx]; exact Nat.mod_lt _ (by decide)
      rw [hx] at ci
      obtain ⟨y, hy⟩ : ∃ y, v % 256 ^ i = y := ⟨_, rfl⟩
      have HXX := hid hx; have HY := hid hy
      rw [hy]
      clear hx hy rdr
      have w9 : IntKind.u64.wrap (x : Int) = (x : Int) := IntWalk.u64_in _ (by omega)
      go_wp2_with fail
      have hor := or_byte (v := v) (i := i) (by omega) HXX.out HY.out
      refine ⟨⟨i + 1, by omega, by go_num, ?_, sr⟩, by simp [intOf]; omega⟩
      rw [hor]
    · have hie : i = k := by omega
      subst hie
      have hvv : v % 256 ^ i = v := Nat.mod_eq_of_lt HV.out
      rw [hvv]
      clear hvv
      go_wp2_with fail
      exact HK.out _ _ _ _ HSU.out sr.drop

set_option maxRecDepth 100000 in
set_option maxHeartbeats 2000000 in
theorem rflag_c {f : Bool} {ys : List UInt8} (hk : 1 ≤ m) (hm : m ≤ 1048576) (hx : xs = flagB f ++ ys) (hr : Rds W R 1 ax m cx (byC xs)) (st : St W w (row b 0 (octC ax m cx) :: R))
    (K : ∀ ax' m' cx' w', Sub 1 ax m cx ax' m' cx' → St W w' (row b 0 (octC ax' m' cx') :: R) → post (.returned (.bool f)) w') :
    Calls Tryz.prog 206 #[.pointer (some ⟨b, 0, none⟩)] w post := by
  have HK := hid K; clear K
  obtain ⟨l0, l1⟩ := rdrLd st
  have rd := hr _ st.drop
  obtain ⟨g, o, rfl⟩ := rd.addr (by omega)
  have h0 : (byC xs)[0]? = some (.int .u8 (if f then 1 else 0)) := by rw [hx]; cases f <;> rfl
  have c0 := rd.at h0
  rw [Nat.add_zero] at c0
  have ht : byC (xs.take 1) = [.int .u8 (if f then 1 else 0)] := by rw [hx]; cases f <;> rfl
  have HT := hid ht
  have hk2 : (1 : Nat) ≤ m := hk
  clear hx h0 ht rd
  cases f with
  | false =>
    have c0' := run_ldP (t := 5) (by kernel_rfl) c0
    simp only [Bool.false_eq_true, if_false] at c0' HT
    clear c0
    go_enter Tryz.func206, Tryz.ntmps206
    go_wp2_with (first
      | (go_at_call 228; refine rhas_ok (k := 1) hk st ?_)
      | (go_at_call 229; refine rtake_c (k := 1) hk hm hr st ?_; rintro a3 c3 ax' m' cx' w3 HS s3; rw [HT.out] at s3; have HSU := hid HS; clear HS; have rd3 := OwnS.rd s3; obtain ⟨g4, o4, rfl⟩ := rd3.addr (by omega); have c4 := run_ldP (t := 5) (by kernel_rfl) (rd3.at (i := 0) rfl); rw [Nat.add_zero] at c4))
    exact HK.out _ _ _ _ HSU.out s3.drop
  | true =>
    have c0' := run_ldP (t := 5) (by kernel_rfl) c0
    simp only [if_true] at c0' HT
    clear c0
    go_enter Tryz.func206, Tryz.ntmps206
    go_wp2_with (first
      | (go_at_call 228; refine rhas_ok (k := 1) hk st ?_)
      | (go_at_call 229; refine rtake_c (k := 1) hk hm hr st ?_; rintro a3 c3 ax' m' cx' w3 HS s3; rw [HT.out] at s3; have HSU := hid HS; clear HS; have rd3 := OwnS.rd s3; obtain ⟨g4, o4, rfl⟩ := rd3.addr (by omega); have c4 := run_ldP (t := 5) (by kernel_rfl) (rd3.at (i := 0) rfl); rw [Nat.add_zero] at c4))
    exact HK.out _ _ _ _ HSU.out s3.drop

set_option maxRecDepth 100000 in
theorem rdone_c {cx : Nat} {ax : Option Addr} (st : St W w (row b 0 (octC ax 0 cx) :: R)) (K : post (.returned (.int .i64 0)) w) :
    Calls Tryz.prog 173 #[.pointer (some ⟨b, 0, none⟩)] w post := by
  have HK := hid K; clear K
  obtain ⟨l0, l1⟩ := rdrLd st
  go_enter Tryz.func173, Tryz.ntmps173
  go_wp2_with fail
  exact HK.out

set_option maxRecDepth 100000 in
theorem rerr_c (st : St W w (row b 0 (octC ax m cx) :: R)) (K : post (.returned (.int .i64 0)) w) :
    Calls Tryz.prog 209 #[.pointer (some ⟨b, 0, none⟩)] w post := by
  have HK := hid K; clear K
  obtain ⟨l0, l1⟩ := rdrLd st
  go_enter Tryz.func209, Tryz.ntmps209
  go_wp2_with fail
  exact HK.out

theorem convRd {t : ByteArray} {n : Nat} (hn : t.size = n) (rd : RdS w 1 ax n cx (byC t.data.toList)) : (convert 104 9 (.slice ax n cx)).run Tryz.prog w = .ok (.string t) w := by
  have hl : t.data.toList.length = n := by rw [← hn]; rfl
  have key : strOfNums (t.data.toList.map fun b => ((b.toNat : Nat) : Int)) = t := by
    unfold strOfNums
    obtain ⟨⟨l⟩⟩ := t
    simp [Function.comp_def]
  rcases Nat.eq_zero_or_pos n with h0 | h0
  · have ht : t = ByteArray.empty := by
      subst h0
      obtain ⟨⟨l⟩⟩ := t
      cases l with
      | nil => rfl
      | cons x l => simp at hl
    subst h0
    rw [run_convert_bytes_string w 104 9 5 _ 0 cx Tryz.underlying104 Tryz.underlying5 Tryz.underlying9, ht]
    cases ax <;> simp [Conv.bytesToString, loadCells]
    all_goals rfl
  · obtain ⟨g, o, rfl⟩ := rd.addr h0
    have := run_convert_bytes_arg w 104 5 Tryz.underlying104 Tryz.underlying5 g o n cx (t.data.toList.map fun b => ((b.toNat : Nat) : Int)) (by rw [List.length_map]; exact hl) (fun i hi => by
      have h1 : (byC t.data.toList)[i]? = some (.int .u8 (((t.data.toList.map fun b => ((b.toNat : Nat) : Int)).getD i 0))) := by
        unfold byC
        have hi2 : i < t.data.toList.length := by omega
        rw [List.getElem?_map, List.getElem?_eq_getElem hi2, List.getD_eq_getElem?_getD, List.getElem?_map, List.getElem?_eq_getElem hi2]
        rfl
      exact rd.at h1) 9 Tryz.underlying9
    rw [this, key]

set_option maxRecDepth 100000 in
set_option maxHeartbeats 2000000 in
theorem rtext_c {t : ByteArray} {most : Int} {ys : List UInt8} (hk : 1 + t.size ≤ m) (hmo : (t.size : Int) ≤ most) (h255 : t.size ≤ 255) (hm : m ≤ 1048576) (hx : xs = txtB t ++ ys) (hr : Rds W R 1 ax m cx (byC xs)) (st : St W w (row b 0 (octC ax m cx) :: R))
    (K : ∀ ax' m' cx' w', Sub (1 + t.size) ax m cx ax' m' cx' → St W w' (row b 0 (octC ax' m' cx') :: R) → post (.returned (.string t)) w') :
    Calls Tryz.prog 205 #[.pointer (some ⟨b, 0, none⟩), .int .i64 most] w post := by
  have HK := hid K; clear K
  obtain ⟨l0, l1⟩ := rdrLd st
  have rd := hr _ st.drop
  obtain ⟨g, o, rfl⟩ := rd.addr (by omega)
  obtain ⟨z, hz⟩ : ∃ z, t.size = z := ⟨_, rfl⟩
  have h0 : (byC xs)[0]? = some (.int .u8 (z : Int)) := by
    rw [hx]; unfold byC txtB
    simp [UInt8.toNat_ofNat', hz]; omega
  have c0 := run_ldP (t := 5) (by kernel_rfl) (rd.at h0)
  rw [Nat.add_zero] at c0
  have hln : (txtB t).length = 1 + z := by unfold txtB; rw [List.length_cons, ← hz, Nat.add_comm]; rfl
  have ht : xs.take (1 + z) = txtB t := by rw [hx, ← hln, List.take_left]
  rw [hz] at hk hmo h255 HK
  have HT := hid ht; have HZ := hid hz
  have HB5 : Hid ((byC (txtB t)).drop (1 * 1) = byC t.data.toList) := hid rfl
  have d1 : decide ((z : Int) > most) = false := decide_eq_false (by omega)
  have w1 : IntKind.i64.wrap (1 + (z : Int)) = ((1 + z : Nat) : Int) := by rw [IntWalk.i64_in _ (by omega)]; push_cast; rfl
  clear hx h0 ht rd hz hln
  go_enter Tryz.func205, Tryz.ntmps205
  go_wp2_with (first
    | (go_at_call 228; have gg := m1; refine rhas_ok (k := 1 + z) hk st ?_)
    | (go_at_call 228; have m1 := True.intro; refine rhas_ok (k := 1) (by omega) st ?_)
    | (go_at_call 229; refine rtake_c (k := 1 + z) hk hm hr st ?_; rintro a3 c3 ax' m' cx' w3 HS s3; rw [HT.out] at s3; have HSU := hid HS; clear HS)
    | (refine wpl_tail rfl (.tmp 31) (.const (.int .i64 1)) rfl Tryz.elem104 1 (n' := z) rfl rfl (by omega) ?_; rintro ax5 cx5 ht5; have rd5 := (OwnS.rd s3).tail (k := 1) (n' := z) (by omega) ht5; rw [HB5.out] at rd5; have hcv := convRd HZ.out rd5; clear rd5 ht5))
  exact HK.out _ _ _ _ HSU.out s3.drop
end
end Go.Proofs.YtggbeedghblakaaGreatDoor

/- An entry is read from its bytes: Take, Decode. Printed by mkDecA.py. -/
namespace Go.Proofs.YtggbeedghblakaaGreatDoor
open Go.RowKit Go.Qd

theorem row_st {W w : World} {R : List HP} {T : Nat} {vs : List Value} (s : St W w (row T 0 vs :: R)) {i : Nat} {u : Value} (hi : vs[i]? = some u) (v : Value) (_hv : v.oneCell' = true) :
    w.cell? ⟨T, i, none⟩ = some u ∧ w.frozen? ⟨T, i, none⟩ = false ∧ St W (w.setCell ⟨T, i, none⟩ v) (row T 0 (vs.set i v) :: R) := by
  have hl : i < vs.length := (List.getElem?_eq_some_iff.1 hi).1
  have d := s.rowCell hi
  have f := s.rowFree (i := i) hl
  have s3 := s.rowSet (i := i) hl v
  rw [Nat.zero_add] at d f s3
  exact ⟨d, f, s3⟩
theorem drop_at {a b : List UInt8} {n : Nat} (h : a.length = n) : (a ++ b).drop n = b := by rw [← h, List.drop_left]
theorem take_at {a b : List UInt8} {n : Nat} (h : a.length = n) : (a ++ b).take n = a := by rw [← h, List.take_left]
theorem Sub.next {W : World} {R : List HP} {k m cx m' cx' : Nat} {ax ax' : Option Addr} {xs ys zs : List UInt8} (h : Sub k ax m cx ax' m' cx') (hr : Rds W R 1 ax m cx (byC xs)) (hx : xs = zs ++ ys) (hz : zs.length = k) : Rds W R 1 ax' m' cx' (byC ys) := by
  have := h.rds hr
  rwa [hx, drop_at hz] at this

section
attribute [local go_sem ↓] execOp_ldAny
variable {W w : World} {R : List HP} {post : Ending → World → Prop}

set_option maxRecDepth 100000 in
set_option maxHeartbeats 16000000 in
theorem take_in {key val : ByteArray} {dead : Bool} {sc ss ac az kp age : Nat} {b m cx : Nat} {ax : Option Addr} (hk : key.size ≤ 16) (hv : val.size ≤ 32) (h1 : sc < 4294967296) (h2 : ss < 12) (h3 : ac < 4294967296) (h4 : az < 12) (h5 : kp < 4096) (h6 : age < 4294967296)
    (hc : checkE ⟨key, val, dead, sc, ss, ac, az, kp, age⟩ = 0) (hr : Rds W R 1 ax m cx (byC (encE ⟨key, val, dead, sc, ss, ac, az, kp, age⟩))) (st : St W w (row b 0 (octC ax m cx) :: R))
    (K : ∀ ax' cx' w', St W w' (row b 0 (octC ax' 0 cx') :: R) → post (.returned (.agg (EnV.cells ⟨key, val, dead, sc, ss, ac, az, kp, age⟩).toArray)) w') :
    Calls Tryz.prog 172 #[.pointer (some ⟨b, 0, none⟩)] w post := by
  have HK := hid K; clear K
  obtain ⟨kz, hkz⟩ : ∃ z, key.size = z := ⟨_, rfl⟩
  obtain ⟨vz, hvz⟩ : ∃ z, val.size = z := ⟨_, rfl⟩
  obtain ⟨y9, hy9⟩ : ∃ y : List UInt8, y = [] := ⟨_, rfl⟩
  obtain ⟨y8, hy8⟩ : ∃ y, y = leB age 4 ++ y9 := ⟨_, rfl⟩
  obtain ⟨y7, hy7⟩ : ∃ y, y = leB kp 2 ++ y8 := ⟨_, rfl⟩
  obtain ⟨y6, hy6⟩ : ∃ y, y = leB az 1 ++ y7 := ⟨_, rfl⟩
  obtain ⟨y5, hy5⟩ : ∃ y, y = leB ac 4 ++ y6 := ⟨_, rfl⟩
  obtain ⟨y4, hy4⟩ : ∃ y, y = leB ss 1 ++ y5 := ⟨_, rfl⟩
  obtain ⟨y3, hy3⟩ : ∃ y, y = leB sc 4 ++ y4 := ⟨_, rfl⟩
  obtain ⟨y2, hy2⟩ : ∃ y, y = txtB val ++ y3 := ⟨_, rfl⟩
  obtain ⟨y1, hy1⟩ : ∃ y, y = flagB dead ++ y2 := ⟨_, rfl⟩
  obtain ⟨y0, hy0⟩ : ∃ y, y = txtB key ++ y1 := ⟨_, rfl⟩
  have hen : encE ⟨key, val, dead, sc, ss, ac, az, kp, age⟩ = y0 := by
    rw [hy0, hy1, hy2, hy3, hy4, hy5, hy6, hy7, hy8, hy9]
    have := (encE_parts key val dead sc ss ac az kp age []).symm
    rw [List.nil_append] at this
    rw [this]
    simp only [List.append_assoc, List.nil_append, List.append_nil]
  rw [hen] at hr
  have hm : m = kz + (vz + 19) := by
    have := (hr _ st.drop).len
    rw [byC_len, hy0, hy1, hy2, hy3, hy4, hy5, hy6, hy7, hy8, hy9] at this
    simp only [List.length_append, txtB_len, leB_len, hkz, hvz] at this
    have hf : (flagB dead).length = 1 := rfl
    rw [hf] at this
    simp only [List.length_nil] at this
    omega
  have HM0 := hid hm
  have hmm : m ≤ 1048576 := by omega
  have HKZ := hid hkz; have HVZ := hid hvz
  have Y0 := hid hy0
  have Y1 := hid hy1
  have Y2 := hid hy2
  have Y3 := hid hy3
  have Y4 := hid hy4
  have Y5 := hid hy5
  have Y6 := hid hy6
  have Y7 := hid hy7
  have Y8 := hid hy8
  have Y9 := hid hy9
  have H0 := hid hr; have HC := hid hc
  have HKS : Hid (kz ≤ 16) := hid (by omega); have HVS : Hid (vz ≤ 32) := hid (by omega)
  have wsc : IntKind.i64.wrap (sc : Int) = (sc : Int) := IntWalk.i64_in _ (by omega)
  have wss : IntKind.i64.wrap (ss : Int) = (ss : Int) := IntWalk.i64_in _ (by omega)
  have wac : IntKind.i64.wrap (ac : Int) = (ac : Int) := IntWalk.i64_in _ (by omega)
  have waz : IntKind.i64.wrap (az : Int) = (az : Int) := IntWalk.i64_in _ (by omega)
  have wkp : IntKind.i64.wrap (kp : Int) = (kp : Int) := IntWalk.i64_in _ (by omega)
  have wage : IntKind.i64.wrap (age : Int) = (age : Int) := IntWalk.i64_in _ (by omega)
  have B1 := hid h1; have B2 := hid h2; have B3 := hid h3; have B4 := hid h4; have B5 := hid h5; have B6 := hid h6
  clear hk hv h1 h2 h3 h4 h5 h6 hc hr hkz hvz hen hm hy0 hy1 hy2 hy3 hy4 hy5 hy6 hy7 hy8 hy9
  go_enter Tryz.func172, Tryz.ntmps172
  go_upto_region 6 with (first
    | (refine wpl_allocA rfl rfl zero_en st ?_; rintro V wv sv)
    | (refine wpl_allocA rfl rfl zero_en sv ?_; rintro E we se; have s0 : St W _ (row b 0 (octC ax m cx) :: row E 0 EnV.zero.cells :: row V 0 EnV.zero.cells :: R) := se.perm [2])
    | (go_at_call 205; have gg := s2; refine rtext_c (t := val) (ys := y3) (by have := HM2.out; have := HVZ.out; omega) (by have := HVZ.out; have := HVS.out; omega) (by have := HVZ.out; have := HVS.out; omega) (by have := HM2.out; have := HVS.out; omega) Y2.out H2.out.cons.cons s2 ?_; rintro ax3 m3 cx3 u2w hs2 t2; have H3 := hid (hs2.next H2.out Y2.out (by rw [txtB_len, Nat.add_comm])); have HM3 : Hid (m3 = 16) := hid (by have := hs2.1; have := HM2.out; have := HKZ.out; have := HVZ.out; omega); obtain ⟨d2, f2, q2⟩ := row_st (St.pick 1 t2) (i := 1) rfl (.string val) rfl; have s3 : St W _ (row b 0 (octC ax3 m3 cx3) :: row E 0 (EnV.cells ⟨key, val, dead, 0, 0, 0, 0, 0, 0⟩) :: row V 0 EnV.zero.cells :: R) := q2.perm [1]; clear hs2 t2 q2)
    | (go_at_call 206; refine rflag_c (f := dead) (ys := y2) (by have := HM1.out; omega) (by have := HM1.out; have := HVS.out; omega) Y1.out H1.out.cons.cons s1 ?_; rintro ax2 m2 cx2 u1w hs1 t1; have H2 := hid (hs1.next H1.out Y1.out (rfl)); have HM2 : Hid (m2 = vz + 17) := hid (by have := hs1.1; have := HM1.out; have := HKZ.out; have := HVZ.out; omega); obtain ⟨d1, f1, q1⟩ := row_st (St.pick 1 t1) (i := 2) rfl (.bool dead) rfl; have s2 : St W _ (row b 0 (octC ax2 m2 cx2) :: row E 0 (EnV.cells ⟨key, ByteArray.empty, dead, 0, 0, 0, 0, 0, 0⟩) :: row V 0 EnV.zero.cells :: R) := q1.perm [1]; clear hs1 t1 q1)
    | (go_at_call 205; refine rtext_c (t := key) (ys := y1) (by have := HM0.out; have := HKZ.out; omega) (by have := HKZ.out; have := HKS.out; omega) (by have := HKZ.out; have := HKS.out; omega) hmm Y0.out H0.out.cons.cons s0 ?_; rintro ax1 m1 cx1 u0w hs0 t0; have H1 := hid (hs0.next H0.out Y0.out (by rw [txtB_len, Nat.add_comm])); have HM1 : Hid (m1 = vz + 18) := hid (by have := hs0.1; have := HM0.out; have := HKZ.out; have := HVZ.out; omega); obtain ⟨d0, f0, q0⟩ := row_st (St.pick 1 t0) (i := 0) rfl (.string key) rfl; have s1 : St W _ (row b 0 (octC ax1 m1 cx1) :: row E 0 (EnV.cells ⟨key, ByteArray.empty, false, 0, 0, 0, 0, 0, 0⟩) :: row V 0 EnV.zero.cells :: R) := q0.perm [1]; clear hs0 t0 q0))
  obtain ⟨yL, y_0, y_1, y_2⟩ : ∃ f : Nat → List UInt8, f 0 = y3 ∧ f 1 = y5 ∧ f 2 = y7 := ⟨fun i => match i with | 0 => y3 | 1 => y5 | _ => y7, rfl, rfl, rfl⟩
  obtain ⟨eL, e_0, e_1, e_2⟩ : ∃ f : Nat → List Value, f 0 = EnV.cells ⟨key, val, dead, 0, 0, 0, 0, 0, 0⟩ ∧ f 1 = EnV.cells ⟨key, val, dead, sc, ss, 0, 0, 0, 0⟩ ∧ f 2 = EnV.cells ⟨key, val, dead, sc, ss, ac, az, 0, 0⟩ := ⟨fun i => match i with | 0 => _ | 1 => _ | _ => _, rfl, rfl, rfl⟩
  have YL0 := hid y_0; have YL1 := hid y_1; have YL2 := hid y_2; have EL0 := hid e_0; have EL1 := hid e_1; have EL2 := hid e_2
  clear y_0 y_1 y_2 e_0 e_1 e_2
  go_loopw [18] (fun iv wr => ∃ (i : Nat) (axx : Option Addr) (mm cc : Nat), i ≤ 2 ∧ iv = .int .i64 i ∧ Hid (mm = 16 - 5 * i) ∧ Hid (Rds W R 1 axx mm cc (byC (yL i))) ∧ St W wr (row b 0 (octC axx mm cc) :: row E 0 (eL i) :: row V 0 EnV.zero.cells :: R)) (fun iv _ => 2 - (intOf iv).toNat)
  case atStart => exact ⟨0, ax3, m3, cx3, by omega, rfl, HM3, hid (by rw [YL0.out]; exact H3.out), by rw [EL0.out]; exact s3⟩
  case round =>
    obtain ⟨i, axx, mm, cc, hi, rfl, HMM, HRR, sr⟩ := hrel
    by_cases hlt : i < 2
    · have hi2 : (i : Int) < (2 : Int) := by omega
      rcases (show i = 0 ∨ i = 1 by omega) with rfl | rfl
      · have s3 := sr
        rw [EL0.out] at s3
        have H3 : Hid (Rds W R 1 axx mm cc (byC y3)) := hid (by rw [← YL0.out]; exact HRR.out)
        have HM3 : Hid (mm = 16) := hid (by have := HMM.out; omega)
        clear sr
        go_wp2_with (first
          | (refine wpl_index rfl (.tmp 17) (.tmp 18) rfl (by rfl) (by rfl) (run_index1 (k := 0) (v := .pointer (some ⟨E, 3, none⟩)) Tryz.underlying331 (by kernel_rfl) (by kernel_rfl) (by decide) (by rfl)) ?_)
          | (go_at_call 207; have gg := s4; refine rnumber_c (k := 1) (v := ss) (by have := HM4.out; omega) (by decide) (by have := HM4.out; omega) (by rw [Y4.out]; exact take_at (leB_len _ _)) (Nat.lt_of_lt_of_le B2.out (by decide)) H4.out.cons.cons s4 ?_; rintro ax5 m5 cx5 u4w hs4 t4; have H5 := hid (hs4.next H4.out Y4.out (leB_len _ _)); have HM5 : Hid (m5 = 11) := hid (by have := hs4.1; have := HM4.out; have := HKZ.out; have := HVZ.out; omega); obtain ⟨d4, f4, q4⟩ := row_st (St.pick 1 t4) (i := 4) rfl (.int .i64 ss) rfl; have s5 : St W _ (row b 0 (octC ax5 m5 cx5) :: row E 0 (EnV.cells ⟨key, val, dead, sc, ss, 0, 0, 0, 0⟩) :: row V 0 EnV.zero.cells :: R) := q4.perm [1]; clear hs4 t4 q4)
          | (go_at_call 207; refine rnumber_c (k := 4) (v := sc) (by have := HM3.out; omega) (by decide) (by have := HM3.out; omega) (by rw [Y3.out]; exact take_at (leB_len _ _)) (Nat.lt_of_lt_of_le B1.out (by decide)) H3.out.cons.cons s3 ?_; rintro ax4 m4 cx4 u3w hs3 t3; have H4 := hid (hs3.next H3.out Y3.out (leB_len _ _)); have HM4 : Hid (m4 = 12) := hid (by have := hs3.1; have := HM3.out; have := HKZ.out; have := HVZ.out; omega); obtain ⟨d3, f3, q3⟩ := row_st (St.pick 1 t3) (i := 3) rfl (.int .i64 sc) rfl; have s4 : St W _ (row b 0 (octC ax4 m4 cx4) :: row E 0 (EnV.cells ⟨key, val, dead, sc, 0, 0, 0, 0, 0⟩) :: row V 0 EnV.zero.cells :: R) := q3.perm [1]; clear hs3 t3 q3))
        go_roundw
        case rel => exact ⟨1, _, _, _, by omega, by go_num, hid (by have := HM5.out; omega), hid (by rw [YL1.out]; exact H5.out), by rw [EL1.out]; exact s5⟩
        case measure => simp [intOf]
      · have s5 := sr
        rw [EL1.out] at s5
        have H5 : Hid (Rds W R 1 axx mm cc (byC y5)) := hid (by rw [← YL1.out]; exact HRR.out)
        have HM5 : Hid (mm = 11) := hid (by have := HMM.out; omega)
        clear sr
        go_wp2_with (first
          | (refine wpl_index rfl (.tmp 17) (.tmp 18) rfl (by rfl) (by rfl) (run_index1 (k := 1) (v := .pointer (some ⟨E, 5, none⟩)) Tryz.underlying331 (by kernel_rfl) (by kernel_rfl) (by decide) (by rfl)) ?_)
          | (go_at_call 207; have gg := s6; refine rnumber_c (k := 1) (v := az) (by have := HM6.out; omega) (by decide) (by have := HM6.out; omega) (by rw [Y6.out]; exact take_at (leB_len _ _)) (Nat.lt_of_lt_of_le B4.out (by decide)) H6.out.cons.cons s6 ?_; rintro ax7 m7 cx7 u6w hs6 t6; have H7 := hid (hs6.next H6.out Y6.out (leB_len _ _)); have HM7 : Hid (m7 = 6) := hid (by have := hs6.1; have := HM6.out; have := HKZ.out; have := HVZ.out; omega); obtain ⟨d6, f6, q6⟩ := row_st (St.pick 1 t6) (i := 6) rfl (.int .i64 az) rfl; have s7 : St W _ (row b 0 (octC ax7 m7 cx7) :: row E 0 (EnV.cells ⟨key, val, dead, sc, ss, ac, az, 0, 0⟩) :: row V 0 EnV.zero.cells :: R) := q6.perm [1]; clear hs6 t6 q6)
          | (go_at_call 207; refine rnumber_c (k := 4) (v := ac) (by have := HM5.out; omega) (by decide) (by have := HM5.out; omega) (by rw [Y5.out]; exact take_at (leB_len _ _)) (Nat.lt_of_lt_of_le B3.out (by decide)) H5.out.cons.cons s5 ?_; rintro ax6 m6 cx6 u5w hs5 t5; have H6 := hid (hs5.next H5.out Y5.out (leB_len _ _)); have HM6 : Hid (m6 = 7) := hid (by have := hs5.1; have := HM5.out; have := HKZ.out; have := HVZ.out; omega); obtain ⟨d5, f5, q5⟩ := row_st (St.pick 1 t5) (i := 5) rfl (.int .i64 ac) rfl; have s6 : St W _ (row b 0 (octC ax6 m6 cx6) :: row E 0 (EnV.cells ⟨key, val, dead, sc, ss, ac, 0, 0, 0⟩) :: row V 0 EnV.zero.cells :: R) := q5.perm [1]; clear hs5 t5 q5))
        go_roundw
        case rel => exact ⟨2, _, _, _, by omega, by go_num, hid (by have := HM7.out; omega), hid (by rw [YL2.out]; exact H7.out), by rw [EL2.out]; exact s7⟩
        case measure => simp [intOf]
    · have hie : i = 2 := by omega
      subst hie
      have s7 := sr
      rw [EL2.out] at s7
      have H7 : Hid (Rds W R 1 axx mm cc (byC y7)) := hid (by rw [← YL2.out]; exact HRR.out)
      have HM7 : Hid (mm = 6) := hid (by have := HMM.out; omega)
      clear sr
      go_wp2_with (first
        | (go_at_call 207; have gg := s8; refine rnumber_c (k := 4) (v := age) (by have := HM8.out; omega) (by decide) (by have := HM8.out; omega) (by rw [Y8.out]; exact take_at (leB_len _ _)) (Nat.lt_of_lt_of_le B6.out (by decide)) H8.out.cons.cons s8 ?_; rintro ax9 m9 cx9 u8w hs8 t8; have H9 := hid (hs8.next H8.out Y8.out (leB_len _ _)); have HM9 : Hid (m9 = 0) := hid (by have := hs8.1; have := HM8.out; have := HKZ.out; have := HVZ.out; omega); obtain ⟨d8, f8, q8⟩ := row_st (St.pick 1 t8) (i := 8) rfl (.int .i64 age) rfl; have s9 : St W _ (row b 0 (octC ax9 m9 cx9) :: row E 0 (EnV.cells ⟨key, val, dead, sc, ss, ac, az, kp, age⟩) :: row V 0 EnV.zero.cells :: R) := q8.perm [1]; clear hs8 t8 q8; have lE := run_loadG agg_en (vs := EnV.cells ⟨key, val, dead, sc, ss, ac, az, kp, age⟩) rfl (St.pick 1 s9).rowAll)
        | (go_at_call 207; refine rnumber_c (k := 2) (v := kp) (by have := HM7.out; omega) (by decide) (by have := HM7.out; omega) (by rw [Y7.out]; exact take_at (leB_len _ _)) (Nat.lt_of_lt_of_le B5.out (by decide)) H7.out.cons.cons s7 ?_; rintro ax8 m8 cx8 u7w hs7 t7; have H8 := hid (hs7.next H7.out Y7.out (leB_len _ _)); have HM8 : Hid (m8 = 4) := hid (by have := hs7.1; have := HM7.out; have := HKZ.out; have := HVZ.out; omega); obtain ⟨d7, f7, q7⟩ := row_st (St.pick 1 t7) (i := 7) rfl (.int .i64 kp) rfl; have s8 : St W _ (row b 0 (octC ax8 m8 cx8) :: row E 0 (EnV.cells ⟨key, val, dead, sc, ss, ac, az, kp, 0⟩) :: row V 0 EnV.zero.cells :: R) := q7.perm [1]; clear hs7 t7 q7)
        | (go_at_call 68; refine check_c (e := ⟨key, val, dead, sc, ss, ac, az, kp, age⟩) s9 ?_; rintro wc sc9; rw [HC.out]; have lE2 := run_loadG agg_en (vs := EnV.cells ⟨key, val, dead, sc, ss, ac, az, kp, age⟩) rfl (St.pick 1 sc9).rowAll)
        | (go_at_call 209; refine rerr_c sc9 ?_)
        | (refine wpl_storeA (vs := EnV.cells ⟨key, val, dead, sc, ss, ac, az, kp, age⟩) rfl (.tmp 2) (.tmp 55) (by rfl) agg_en (by rfl) (by rfl) rfl (env_one ⟨key, val, dead, sc, ss, ac, az, kp, age⟩) (St.pick 2 sc9) rfl ?_; rintro wz sz))
      have hL := run_loadA agg_en (vs := EnV.cells ⟨key, val, dead, sc, ss, ac, az, kp, age⟩) rfl sz.rowAll
      have h9 := HM9.out
      subst h9
      exact bodyPost_ret (v := .agg (EnV.cells ⟨key, val, dead, sc, ss, ac, az, kp, age⟩).toArray) (by simp [results, Tryz.results172, asAddr, hL, Act.put]) rfl (HK.out _ _ _ (((sz.drop).perm [1]).drop))


end
section
variable {W w : World} {R : List HP} {post : Ending → World → Prop}
set_option maxRecDepth 100000 in
/-- A reader of bytes. -/
theorem rread_c {ax : Option Addr} {n cx : Nat} {xs : List UInt8} (hr : Rds W R 1 ax n cx (byC xs)) (hn : n ≤ 1048576) (st : St W w R)
    (K : ∀ b a c w', St W w' (row b 0 (octC a n c) :: OwnS 1 a n c (byC xs) :: R) → post (.returned (.pointer (some ⟨b, 0, none⟩))) w') :
    Calls Tryz.prog 171 #[.slice ax n cx] w post := by
  have HK := hid K; clear K
  have rd := hr _ st
  have hb : n * 1 ≤ 140737488355328 := by omega
  clear hr
  go_enter Tryz.func171, Tryz.ntmps171
  go_wp2_with (first
    | (go_at_call 165; refine cloneU_c st rd hb ?_; rintro a7 c7 w7 s7)
    | (refine wpl_build rfl rfl (v := .agg (octC a7 n c7).toArray) (by kernel_rfl) ?_)
    | (refine wpl_boxA (vs := octC a7 n c7) rfl (.tmp 5) rfl rfl s7 ?_; rintro b w8 s8))
  exact HK.out _ _ _ _ s8

theorem takeE_c {e : EnV} {b m cx : Nat} {ax : Option Addr} (hc : checkE e = 0) (hr : Rds W R 1 ax m cx (byC (encE e))) (st : St W w (row b 0 (octC ax m cx) :: R))
    (K : ∀ ax' cx' w', St W w' (row b 0 (octC ax' 0 cx') :: R) → post (.returned (.agg e.cells.toArray)) w') :
    Calls Tryz.prog 172 #[.pointer (some ⟨b, 0, none⟩)] w post := by
  obtain ⟨x1, x2, x3, x4, x5, x6, he, h1, h2, h3, h4, h5, h6, hk, hv⟩ := entry_nats hc
  rw [he] at hc hr K
  exact take_in hk hv h1 h2 h3 h4 h5 h6 hc hr st K

set_option maxRecDepth 100000 in
set_option maxHeartbeats 2000000 in
/-- An entry of its own bytes. -/
theorem decode_c {e : EnV} {ax : Option Addr} {n cx : Nat} (hc : checkE e = 0) (hr : Rds W R 1 ax n cx (byC (encE e))) (hn : n ≤ 1048576) (st : St W w R)
    (K : ∀ w', St W w' R → post (.returned (.tuple #[.agg e.cells.toArray, .int .i64 0])) w') :
    Calls Tryz.prog 118 #[.slice ax n cx] w post := by
  have HK := hid K; clear K
  have HCC := hid hc
  have HR := hid hr
  clear hc hr
  go_enter Tryz.func118, Tryz.ntmps118
  go_wp2_with (first
    | (refine wpl_allocA rfl rfl zero_en st ?_; rintro V w1 s1)
    | (go_at_call 171; refine rread_c HR.out.cons hn s1 ?_; rintro b a2 c2 w2 s2)
    | (go_at_call 172; refine takeE_c HCC.out (fun w' s' => OwnS.rd s') s2 ?_; rintro ax3 cx3 w3 s3)
    | (refine wpl_allocA rfl rfl zero_en s3 ?_; rintro T w4 s4)
    | (refine wpl_storeA (vs := e.cells) rfl (.tmp 5) (.tmp 10) (by rfl) agg_en (by rfl) (by rfl) rfl (env_one _) s4 rfl ?_; rintro w5 s5)
    | (go_at_call 173; refine rdone_c (St.pick 1 s5) ?_)
    | (refine wpl_loadA (vs := e.cells) rfl (.tmp 5) (by rfl) agg_en (by rfl) rfl s5.rowAll ?_)
    | (refine wpl_storeA (vs := e.cells) rfl (.tmp 2) (.tmp 17) (by rfl) agg_en (by rfl) (by rfl) rfl (env_one _) (St.pick 3 s5) rfl ?_; rintro wz sz))
  have hL := run_loadA agg_en (vs := e.cells) rfl sz.rowAll
  exact bodyPost_ret (v := .tuple #[.agg e.cells.toArray, .int .i64 0]) (by simp [results, Tryz.results118, asAddr, hL]) rfl (HK.out _ (sz.dropN 4))
end
end Go.Proofs.YtggbeedghblakaaGreatDoor
