/- An empty replica: its sum, and that nothing goes down from its beginning; its site. -/
import Derived.Test.YtpjdcijphnkioaaGreatNews
import Derived.Test.YtpjdcijphnkioaaGreatTabX
import Derived.Laws.StructEq
import Derived.Deep.RegionLaw
import Derived.Deep.RegionHeld3
import Derived.Deep.DeepCutAuto
namespace Go.Proofs.YtpjdcijphnkioaaGreat
open Go.RowKit Go.Qd RepV

def MkV.none : MkV := ⟨0, 0, ByteArray.empty⟩
def neMG (x y : Operand) (a b : Value) : Sem Value := do eqGuard .neq 83 x y a b; Go.binOp .neq 83 a b
theorem execOp_neM (ρ : Operand → Value) (dst : Option Tmp) (x y : Operand) (r : TypeId) (ty : TypeId) (pos : String) (after : Array Edge) (guard : Option (Nat × Bool)) :
    execOp ρ { dst, op := .binOp .neq 83 x y r, type := ty, pos, after, guard } = (do pure (.value (← neMG x y (ρ x) (ρ y)))) := by simp [execOp, neMG]
theorem run_neM00 (x y : Operand) (w : World) : (neMG x y (.agg MkV.none.cells.toArray) (.agg MkV.none.cells.toArray)).run Tryz.prog w = .ok (.bool false) w := by
  unfold neMG MkV.cells MkV.none
  go_simp

section
attribute [local go_sem ↓] execOp_ldAny
variable {W w : World} {R : List HP} {post : Ending → World → Prop} {b : Nat} {A : RAd} {r : RepV}

theorem rsum_c (st : St W w (RepA A r :: R)) (K : post (.returned (.int .u64 (r.sum : Nat))) w) : Calls Tryz.prog 47 #[.pointer (some ⟨A.p, 0, none⟩)] w post := by
  have HK := hid K; clear K
  have c6 := repRow (RepA.open.1 st) 6 _ rfl
  go_enter Tryz.func47, Tryz.ntmps47
  go_wp2_with (go_at_call 83; refine sumVal_c c6 ?_)
  exact HK.out

attribute [local go_sem ↓] execOp_neM
set_option maxRecDepth 100000 in
set_option maxHeartbeats 4000000 in
theorem ixbelow0_c {k : Int} (hk : 0 ≤ k) (st : St W w (IdxH b [] :: R))
    (K : ∀ a z c' w', z = 0 → St W w' (OwnS 3 a z c' [] :: IdxH b [] :: R) → post (.returned (.slice a z c')) w') :
    Calls Tryz.prog 140 #[.pointer (some ⟨b, 0, none⟩), .agg MkV.none.cells.toArray, .int .i64 k] w post := by
  have HK := hid K; clear K
  obtain ⟨mp, ao, n, c, acts, hi, s0⟩ := IdxH.open st
  have s : St W w (row b 0 [.map (some mp), .slice ao n c] :: OwnS 3 ao n c (mkC []) :: MapA Value.string mp acts :: R) := s0.perm [0, 1]
  have hl : 0 = n := mkC_ln (OwnS.rd (St.pick 1 s))
  have hle := (OwnS.rd (St.pick 1 s)).le
  have hmax := (OwnS.rd (St.pick 1 s)).max
  have HI := hid hi
  obtain ⟨z, hz⟩ : ∃ z : Nat, z = 0 := ⟨_, rfl⟩
  have HZ := hid hz
  have k4 : min (max k 0) (n : Int) = (z : Int) := by omega
  have gM := run_neM00
  have HK5 : Hid (∀ w' R', St W w' (OwnS 3 ao n c (mkC []) :: R') → RdS w' 3 ao z c (mkC [])) := hid (fun w' R' s' => by
    have h := (OwnS.rd s').short (show z ≤ n by omega)
    rw [show mkC [] = ([] : List Value) from rfl] at h ⊢
    rw [List.take_nil] at h
    exact h)
  have hs2 := run_slice_to (P := Tryz.prog) Tryz.elem84 ao n c z (by omega)
  have hzb : z * 32 ≤ 140737488355328 := by omega
  clear hz hl hi
  go_enter Tryz.func140, Tryz.ntmps140
  go_wp2_with (first
    | (refine wpl_boxA (vs := MkV.none.cells) rfl (.tmp 1) rfl rfl s ?_; rintro T w1 s1
       have lm := run_loadG agg_mk (vs := MkV.none.cells) rfl s1.rowAll
       obtain ⟨h0, h1, _⟩ := rowTwo (St.pick 1 s1)
       rw [Nat.zero_add] at h1
       have l1 := run_ldP (t := 84) (by kernel_rfl) h1)
    | (refine wpl_build rfl rfl (v := .agg MkV.none.cells.toArray) (by kernel_rfl) ?_)
    | (at_builtin; refine wpl_max rfl _ _ rfl rfl rfl ?_)
    | (at_builtin; refine wpl_min rfl _ _ rfl rfl rfl ?_; rw [k4])
    | (go_at_call 196; refine cloneM_c s1 (HK5.out _ _ (St.pick 2 s1)) hzb ?_; rintro a7 c7 w7 s7))
  refine HK.out _ _ _ _ HZ.out ?_
  have h1 := (St.pick 1 s7).drop
  exact (IdxH.close HI.out (h1.perm [1, 2, 1])).pick 1

attribute [-go_sem] execOp_neM
set_option maxRecDepth 100000 in
set_option maxHeartbeats 8000000 in
theorem rbelow0_c {k : Int} (hk : 0 ≤ k) (hix : r.ix = []) (st : St W w (RepA A r :: R))
    (K : ∀ w', St W w' (RepA A r :: R) → post (.returned (.slice none 0 0)) w') :
    Calls Tryz.prog 84 #[.pointer (some ⟨A.p, 0, none⟩), .agg MkV.none.cells.toArray, .int .i64 k] w post := by
  have HK := hid K; clear K
  have HIX := hid hix; have HKK := hid hk
  clear hix hk
  go_enter Tryz.func84, Tryz.ntmps84
  go_upto_region 2 with (refine wpl_boxA (vs := MkV.none.cells) rfl (.tmp 1) rfl rfl st ?_; rintro M w1 s1)
  try simp only [Act.put, List.setIfInBounds_toArray, List.set_cons_succ, List.set_cons_zero]
  go_cut [18, 19, 20] (fun v nn zz wx => ∃ ao c, v = .slice ao 0 c ∧ nn = .int .i64 0 ∧ zz = .int .i64 0 ∧ St W wx (RepA A r :: R))
  case first =>
    have u := s1.drew
    have gA := And.intro (repLd (St.pick 1 u)).2.2.2.1 (run_loadG agg_mk (vs := MkV.none.cells) rfl u.rowAll)
    have u2 : St W w1.drew (IdxH A.ix [] :: row A.p 0 (repC A r) :: row A.clk 0 [.int .i64 r.cnt, .int .i64 r.site] :: TabE A.tb 0 r.room r.tab :: TabB A.ow 0 4096 r.own :: row A.gr 0 (graC A r) :: TabE A.gp 0 4096 r.gr :: JrnH A.jb A.d :: DskH A.d r.d :: row M 0 MkV.none.cells :: R) := by
      have h := (RepA.open.1 (St.pick 1 u)).pick 4
      rw [HIX.out] at h
      exact h
    go_region_held3 (fun w' => (loadG 100 (.pointer (some ⟨A.p, 9, none⟩))).run Tryz.prog w' = .ok (.pointer (some ⟨A.ix, 0, none⟩)) w' ∧ (loadG 83 (.pointer (some ⟨M, 0, none⟩))).run Tryz.prog w' = .ok (.agg MkV.none.cells.toArray) w')
      (first
        | with_reducible exact gB
        | with_reducible exact gA)
      (first | (go_at_call 140; refine ixbelow0_c HKK.out u2 ?_; rintro a5 n5 c5 w5 hn5 s5'; subst hn5; have s6' := (s5'.drop).perm [1, 1, 1, 1]; have s5 : St W w5 (RepA A r :: row M 0 MkV.none.cells :: R) := RepA.open.2 (by rw [HIX.out]; exact s6'); have gB := And.intro (repLd s5).2.2.2.1 (run_loadG agg_mk (vs := MkV.none.cells) rfl (St.pick 1 s5).rowAll)))
    all_goals
      go_wp2_with fail
      go_meet
      case rel => exact ⟨_, _, rfl, rfl, rfl, (s5.pick 1).drop⟩
  case rest =>
  obtain ⟨ao, c, rfl, rfl, rfl, s5⟩ := hcut
  go_wp2_with fail
  go_loopw [7, 20] (fun oo ii wr => oo = .slice none 0 0 ∧ ii = .int .i64 0 ∧ St W wr (RepA A r :: R)) (fun _ ii _ => 0)
  case atStart => exact ⟨rfl, rfl, s5⟩
  case round =>
    obtain ⟨rfl, rfl, sr⟩ := hrel
    go_wp2_with fail
    exact HK.out _ sr
end
end Go.Proofs.YtpjdcijphnkioaaGreat
