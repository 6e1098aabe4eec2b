/- The overlay: New, Asked; holds. -/
import Derived.Test.YtbpdchaeakihkaaGreatOverK
namespace Go.Proofs.YtbpdchaeakihkaaGreat
open Go.RowKit Go.Qd

def newO (c : List Int) (self : Int) (D : List Int) : OV := ⟨⟨self, [], c.getD 5 0, [], c.getD 6 0⟩, [], [], c, D, List.replicate 12 0, 0, -1, 0⟩
def newC (c : List Int) (v d : Nat) : List Value := [.pointer (some ⟨v, 0, none⟩), .slice none 0 0, .slice none 0 0] ++ ivs c ++ [.pointer (some ⟨d, 0, none⟩)] ++ ivs (List.replicate 12 0) ++ [.int .i64 0, .int .i64 (-1), .int .i64 0]

theorem cfg_views {c : List Int} (_hc : c.length = 20) (hr : rightB c = true) : (1 ≤ c.getD 5 0 ∧ c.getD 5 0 < 12) ∧ (1 ≤ c.getD 6 0 ∧ c.getD 6 0 < 12) ∧ (2 ≤ c.getD 0 0 ∧ c.getD 0 0 ≤ 12) := by
  have a1 := fine_lo (rightB_iff.1 hr 5 (by decide))
  have a2 := fine_hi (rightB_iff.1 hr 5 (by decide))
  have b1 := fine_lo (rightB_iff.1 hr 6 (by decide))
  have b2 := fine_hi (rightB_iff.1 hr 6 (by decide))
  have d1 := fine_lo (rightB_iff.1 hr 0 (by decide))
  have d2 := fine_hi (rightB_iff.1 hr 0 (by decide))
  simp [leastF, mostF] at a1 a2 b1 b2 d1 d2
  simp [a1, b1, d1, d2]
  omega

section
variable {W w : World} {R : List HP} {post : Ending → World → Prop} {b d : Nat} {O : OV} {p self : Int} {c D : List Int}

def build46G (x y z e : Value) : Sem Value := Instr.build 46 #[(0, x), (2, y), (3, z), (6, e)]
theorem execOp_build46 (ρ : Operand → Value) (dst : Option Tmp) (x y z e : Operand) (ty : TypeId) (pos : String) (after : Array Edge) (guard : Option (Nat × Bool)) :
    execOp ρ { dst, op := .build 46 #[(0, x), (2, y), (3, z), (6, e)], type := ty, pos, after, guard } = (do pure (.value (← build46G (ρ x) (ρ y) (ρ z) (ρ e)))) := by simp [execOp, build46G]
theorem run_build46 (v d : Nat) (hc : c.length = 20) (w : World) :
    (build46G (.pointer (some ⟨v, 0, none⟩)) (.agg (ivs c).toArray) (.pointer (some ⟨d, 0, none⟩)) (.int .i64 (-1))).run Tryz.prog w = .ok (.agg (newC c v d).toArray) w := by
  obtain ⟨x0, x1, x2, x3, x4, x5, x6, x7, x8, x9, x10, x11, x12, x13, x14, x15, x16, x17, x18, x19, rfl⟩ := list20 hc
  kernel_rfl
attribute [local go_sem ↓] execOp_build46

theorem newC_split {v : Nat} (hc : c.length = 20) (s : St W w (row b 0 (newC c v d) :: R)) :
    St W w (row b 0 [.pointer (some ⟨v, 0, none⟩)] :: row b 1 [.slice none 0 0, .slice none 0 0] :: row b 3 (ivs c) :: row b 23 [.pointer (some ⟨d, 0, none⟩)] :: row b 24 (ivs (List.replicate 12 0)) :: row b 36 [.int .i64 0, .int .i64 (-1), .int .i64 0] :: R) := by
  have e : newC c v d = [.pointer (some ⟨v, 0, none⟩)] ++ ([.slice none 0 0, .slice none 0 0] ++ (ivs c ++ ([.pointer (some ⟨d, 0, none⟩)] ++ (ivs (List.replicate 12 0) ++ [.int .i64 0, .int .i64 (-1), .int .i64 0])))) := by simp [newC]
  have hl : (ivs c).length = 20 := by rw [ivs_length]; exact hc
  rw [e] at s
  have s1 := St.rowAppend.1 s
  have s2 := St.rowAppend.1 (St.pick 1 s1)
  have s3 := St.rowAppend.1 (St.pick 1 s2)
  rw [hl] at s3
  have s4 := St.rowAppend.1 (St.pick 1 s3)
  have s5 := St.rowAppend.1 (St.pick 1 s4)
  exact s5.perm [5, 4, 3, 2]

set_option maxRecDepth 100000 in
set_option maxHeartbeats 4000000 in
theorem onew_c (st : St W w (DiceA d D :: R)) (hc : c.length = 20) (hr : rightB c = true) (hs : 0 ≤ self ∧ self < c.getD 0 0)
    (K : ∀ b w', St W w' (OvA b d (newO c self D) :: R) → post (.returned (.tuple #[.pointer (some ⟨b, 0, none⟩), .int .i64 0])) w') :
    Calls Tryz.prog 12 #[.int .i64 self, .agg (ivs c).toArray, .pointer (some ⟨d, 0, none⟩)] w post := by
  have HK := hid K; clear K
  have HC := hid hc; have HR := hid hr
  obtain ⟨h5, h6, h0⟩ := cfg_views hc hr
  have hno : nodeB self = true := by rw [nodeB_iff]; omega
  have HV := hid (And.intro hno (And.intro h5 h6))
  have HL5 : 5 < c.length := by omega
  have HL6 : 6 < c.length := by omega
  have HL0 : 0 < c.length := by omega
  have HLL := hid (And.intro HL0 (And.intro HL5 HL6))
  obtain ⟨s0, s1⟩ := hs
  obtain ⟨n, hn⟩ : ∃ n, c.getD 0 0 = n := ⟨_, rfl⟩
  obtain ⟨am, ham⟩ : ∃ n, c.getD 5 0 = n := ⟨_, rfl⟩
  obtain ⟨pm, hpm⟩ : ∃ n, c.getD 6 0 = n := ⟨_, rfl⟩
  have HN := hid hn; have HAM := hid ham; have HPM := hid hpm
  rw [hn] at s1
  rw [ham, hpm] at HV
  have g0 : decide (self < 0) = false := by simp; omega
  have g1 : decide (n ≤ self) = false := by simp; omega
  clear hc hr h5 h6 h0 hno HL5 HL6 HL0 hn ham hpm
  go_enter Tryz.func12, Tryz.ntmps12
  go_wp2_with (first
    | (refine wpl_boxA (vs := ivs c) rfl (.tmp 1) rfl rfl st ?_; rintro T w0 t0)
    | (refine wpl_loadA (vs := ivs c) rfl (.tmp 4) (by rfl) agg32 (by rfl) (ivs_len20 HC.out) t0.rowAll ?_)
    | (go_at_call 39; refine scheck_c t0 HC.out HR.out ?_; rintro w1 t1; have k0 := cfg_at t1 HLL.out.1; have k5 := cfg_at t1 HLL.out.2.1; have k6 := cfg_at t1 HLL.out.2.2; rw [HN.out] at k0; rw [HAM.out] at k5; rw [HPM.out] at k6)
    | (go_at_call 40; refine views_new_c t1 HV.out ?_; rintro v w2 t2; have b46 := run_build46 v d HC.out w2)
    | (refine wpl_loadA (vs := ivs c) rfl (.tmp 4) (by rfl) agg32 (by rfl) (ivs_len20 HC.out) (St.pick 1 t2).rowAll ?_)
    | (refine wpl_boxA (vs := newC c v d) rfl (.tmp 40) rfl rfl t2 ?_; rintro b w3 t3))
  have u1 := newC_split HC.out t3
  have u2 := OwnS.none0 (sz := 13) (OwnS.none0 (sz := 2) u1.empD)
  have u3 : St W w3 (NewsA b 1 [] [] :: _) := NewsA.close (L := []) (C := []) (u2.perm [4, 0, 0, 0])
  have e : newO c self D = ⟨⟨self, [], am, [], pm⟩, [], [], c, D, List.replicate 12 0, 0, -1, 0⟩ := by unfold newO; rw [HAM.out, HPM.out]
  exact HK.out b _ (by rw [e]; exact St.drop (St.pick 1 (OvA.close (O := ⟨⟨self, [], am, [], pm⟩, [], [], c, D, List.replicate 12 0, 0, -1, 0⟩) (u3.perm [1, 0, 0, 0, 0, 0, 0, 1]))))

theorem asked_c (st : St W w (OvA b d O :: R)) (K : post (.returned (.tuple #[.int .i64 (if O.asked = -1 then 0 else O.asked), .bool (decide (O.asked ≠ -1))])) w) : Calls Tryz.prog 20 #[.pointer (some ⟨b, 0, none⟩)] w post := by
  have HK := hid K; clear K
  obtain ⟨v, s⟩ := OvA.open st
  obtain ⟨g36, g37, g38, f36, f37, f38⟩ := row3c (St.pick 5 s)
  obtain ⟨a, ha⟩ : ∃ a, O.asked = a := ⟨_, rfl⟩
  rw [ha] at g37 HK
  clear ha
  by_cases h : a = -1
  · subst h
    go_enter Tryz.func20, Tryz.ntmps20
    go_wp2
    exact HK.out
  · have h1 : (a == -1) = false := by simp [h]
    rw [if_neg h, decide_eq_true h] at HK
    go_enter Tryz.func20, Tryz.ntmps20
    go_wp2
    exact HK.out

theorem not_take_succ {l : List Int} {i : Nat} (h : i < l.length) {x : Int} (h1 : x ∉ l.take i) (h2 : l[i] ≠ x) : x ∉ l.take (i + 1) := by
  rw [List.take_succ_eq_append_getElem h]; intro g; rcases List.mem_append.1 g with g | g; exact h1 g; exact h2 (List.mem_singleton.1 g).symm

theorem holds_c {ao : Option Addr} {n c : Nat} {zs : List Int} {x : Int} (rd : RdS w 1 ao n c (ivs zs)) (K : post (.returned (.bool (memB zs x))) w) : Calls Tryz.prog 19 #[.slice ao n c, .int .i64 x] w post := by
  have HK := hid K; clear K
  have hz : zs.length = n := by have := rd.len; rw [ivs_length] at this; omega
  have HZ := hid hz
  have hbig := rd.big
  clear hz
  go_enter Tryz.func19, Tryz.ntmps19
  go_wp2_with fail
  go_loopw [9] (fun ii wr => ∃ i : Nat, i ≤ n ∧ ii = .int .i64 i ∧ x ∉ zs.take i ∧ wr = w) (fun ii _ => n - (intOf ii).toNat)
  case atStart => exact ⟨0, Nat.zero_le _, rfl, by simp, rfl⟩
  case round =>
    obtain ⟨i, hi, rfl, hm, rfl⟩ := hrel
    by_cases hlt : i < n
    · obtain ⟨g3, o3, rfl⟩ := rd.addr (by omega)
      have hiA : i < zs.length := by rw [HZ.out]; exact hlt
      have ci := rd.at (ivs_get hiA)
      have hi2 : (i : Int) < (n : Int) := by omega
      have hme := List.getElem_mem hiA
      have HN := hid (fun h2 => not_take_succ hiA hm h2)
      obtain ⟨q, hq⟩ : ∃ q, zs[i] = q := ⟨_, rfl⟩
      rw [hq] at ci hme
      have HQ := hid hq
      clear hq hm rd
      by_cases hqx : q = x
      · subst hqx
        rw [memB_yes hme] at HK
        go_wp2_with fail
        exact HK.out
      · have hb : (q == x) = false := by simp [hqx]
        have HQX := hid hqx
        clear hqx
        go_wp2_with fail
        go_roundw
        case rel => exact ⟨i + 1, by omega, by go_num, HN.out (by rw [HQ.out]; exact HQX.out), trivial⟩
        case measure => simp [intOf]; omega
    · have hie : i = n := by omega
      subst hie
      rw [List.take_of_length_le (by rw [HZ.out]; exact Nat.le_refl _)] at hm
      rw [memB_no hm] at HK
      clear hm
      go_wp2_with fail
      exact HK.out

end

end Go.Proofs.YtbpdchaeakihkaaGreat
