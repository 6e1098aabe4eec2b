/- The overlay's laws: the example that each begins with. -/
import Derived.Test.YtbpdchaeakihkaaGreatTakes
namespace Go.Proofs.YtbpdchaeakihkaaGreat
open Go.RowKit Go.Qd

/-- The example's configuration. -/
def cS : List Int := [2, 2, 1, 0, 0, 1, 1, 1, 0, 1, 1, 1, 1, 1, 1, 1, 0, 4, 1, 16]
theorem cS_right : rightB cS = true := by kernel_rfl
theorem agg85 : AggT Tryz.prog 85 2 := ⟨⟨_, Tryz.underlying85, rfl⟩, by kernel_rfl⟩

theorem RdS.part {w : World} {sz n c b o : Nat} {cs xs ys : List Value} (rd : RdS w sz (some ⟨b, o, none⟩) n c cs) (p : Nat) (h : cs.drop p = xs ++ ys) : ∀ j u, xs[j]? = some u → w.cell? ⟨b, o + p + j, none⟩ = some u := fun j u hu => by
  have h1 : cs[p + j]? = some u := by
    rw [← List.getElem?_drop, h, List.getElem?_append_left]
    · exact hu
    · rcases Nat.lt_or_ge j xs.length with g | g
      · exact g
      · rw [List.getElem?_eq_none g] at hu; cases hu
  have := rd.at h1
  rwa [← Nat.add_assoc] at this

section
variable {W w : World} {R : List HP} {post : Ending → World → Prop}
theorem execOp_load32 (ρ : Operand → Value) (dst : Option Tmp) (a : Operand) (ty : TypeId) (pos : String) (after : Array Edge) (guard : Option (Nat × Bool)) :
    execOp ρ { dst, op := .load 32 a, type := ty, pos, after, guard } = (do pure (.value (← loadG 32 (ρ a)))) := rfl
theorem execOp_load85 (ρ : Operand → Value) (dst : Option Tmp) (a : Operand) (ty : TypeId) (pos : String) (after : Array Edge) (guard : Option (Nat × Bool)) :
    execOp ρ { dst, op := .load 85 a, type := ty, pos, after, guard } = (do pure (.value (← loadG 85 (ρ a)))) := rfl
attribute [local go_sem ↓] execOp_load32 execOp_load85

/-- The example's two overlays, and what came about. -/
def oA : OV := newO cS 0 []
def oB : OV := newO cS 1 []
theorem oA_join : joinL oA 1 = [⟨1, kindM 1⟩] ∧ (raiseO oA 1).C = [(1, true)] ∧ onodeB oA 1 = true := ⟨by kernel_rfl, by kernel_rfl, by kernel_rfl⟩
theorem oB_take : (take1O oB 0).L = [] ∧ (take1O oB 0).C = [(0, true)] ∧ onodeB oB 0 = true ∧ fitsB oB (kindM 1) 1 = true := ⟨by kernel_rfl, by kernel_rfl, by kernel_rfl, by kernel_rfl⟩

theorem new_ok {c : List Int} {self : Int} {D : List Int} (hc : c.length = 20) (hr : rightB c = true) (hs : 0 ≤ self ∧ self < c.getD 0 0) : OOK (newO c self D) := by
  obtain ⟨h5, h6, h0⟩ := cfg_views hc hr
  have hn : nodeB self = true := by rw [nodeB_iff]; omega
  refine ⟨⟨List.Pairwise.nil, List.Pairwise.nil, ⟨h5.1, Int.le_of_lt_add_one h5.2⟩, ⟨h6.1, Int.le_of_lt_add_one h6.2⟩, ?_, ?_, ?_, ?_, ?_⟩, hc, by simp [newO], hr⟩
  · show ((0 : Nat) : Int) ≤ c.getD 5 0; omega
  · show ((0 : Nat) : Int) ≤ c.getD 6 0; omega
  · intro x hx; cases hx
  · intro x hx; cases hx
  · intro x hx; cases hx

theorem let1_rd {la : Option Addr} {ln lc : Nat} {x : LetV} (rd : RdS w 13 la ln lc (letC [x])) : ln = 1 ∧ ∃ B p, la = some ⟨B, p, none⟩ ∧ w.cell? ⟨B, p, none⟩ = some (.int .i64 x.to) ∧ w.cell? ⟨B, p + 1, none⟩ = some (.int .i64 x.m.kind) := by
  have h : ln = 1 := by have := rd.len; rw [letC_size] at this; simp at this; omega
  obtain ⟨B, p, rfl⟩ := rd.addr (by omega)
  exact ⟨h, B, p, rfl, by have := rd.at (i := 0) rfl; simpa using this, rd.at (i := 1) rfl⟩
theorem let0_rd {la : Option Addr} {ln lc : Nat} (rd : RdS w 13 la ln lc (letC [])) : ln = 0 := by have := rd.len; rw [letC_size] at this; simp at this; omega
theorem ch1_rd {ca : Option Addr} {cn cc : Nat} {x : Int × Bool} (rd : RdS w 2 ca cn cc (chC [x])) : cn = 1 ∧ ∃ B p, ca = some ⟨B, p, none⟩ ∧ (loadG 85 (.pointer (some ⟨B, p, none⟩))).run Tryz.prog w = .ok (.agg #[.int .i64 x.1, .bool x.2]) w := by
  have h : cn = 1 := by have := rd.len; rw [chC_size] at this; simp at this; omega
  obtain ⟨B, p, rfl⟩ := rd.addr (by omega)
  exact ⟨h, B, p, rfl, run_loadG agg85 (vs := [.int .i64 x.1, .bool x.2]) rfl (fun j u hu => rd.at hu)⟩

set_option maxRecDepth 100000 in
set_option maxHeartbeats 8000000 in
theorem speaks_c (st : St W w R) (K : ∀ w', St W w' R → post (.returned (.bool true)) w') : Calls Tryz.prog 10 #[] w post := by
  have HK := hid K; clear K
  have HA := hid (new_ok (c := cS) (self := 0) (D := []) rfl cS_right (by decide))
  have HB := hid (new_ok (c := cS) (self := 1) (D := []) rfl cS_right (by decide))
  go_enter Tryz.func10, Tryz.ntmps10
  go_wp2_with (first
    | (refine wpl_build (v := .agg (ivs cS).toArray) rfl (rfl : _ = Op.build 32 _) (by kernel_rfl) ?_)
    | (replace st := hid st; refine wpl_allocA rfl rfl zero32 st.out ?_; rintro T w1 s1; clear st)
    | (replace s1 := hid s1; refine wpl_storeA (vs := ivs cS) rfl (.tmp 1) (.tmp 12) (by rfl) agg32 (by rfl) (by rfl) rfl (ivs_one _) s1.out (by simp [ivs]) ?_; rintro w2 s2; clear s1))
  have s3 : St W w2 (row T 0 (ivs cS) :: R) := s2
  have lc := fun (w' : World) (R' : List HP) (s : St W w' (row T 0 (ivs cS) :: R')) => show (loadG 32 (.pointer (some ⟨T, 0, none⟩))).run Tryz.prog w' = .ok (.agg (ivs cS).toArray) w' from run_loadG agg32 rfl s.rowAll
  have LC := hid lc
  have u := s3.drew
  have gA := lc _ _ u
  clear lc s2
  go_region_held3 (fun w' => (loadG 32 (.pointer (some ⟨T, 0, none⟩))).run Tryz.prog w' = .ok (.agg (ivs cS).toArray) w')
    (first
      | with_reducible exact gC
      | with_reducible exact gB
      | with_reducible exact gA)
    (first
      | (go_at_call 14; refine new_c (zs := []) u (RdS.none0 _ _) (by decide) ?_; rintro d1 w4 s4; have gB := LC.out _ _ (St.pick 1 s4))
      | (go_at_call 12; refine onew_c s4 rfl cS_right (by decide) ?_; rintro b1 w5 s5; have gC := LC.out _ _ (St.pick 1 s5)))
  all_goals
    go_wp2_with fail
    have u2 := s5.drew
    have gD := LC.out _ _ (St.pick 1 u2)
    go_region_held3 (fun w' => (loadG 32 (.pointer (some ⟨T, 0, none⟩))).run Tryz.prog w' = .ok (.agg (ivs cS).toArray) w')
      (first
        | with_reducible exact gF
        | with_reducible exact gE
        | with_reducible exact gD)
      (first
        | (go_at_call 14; refine new_c (zs := []) u2 (RdS.none0 _ _) (by decide) ?_; rintro d2 w6 s6; have gE := LC.out _ _ (St.pick 2 s6))
        | (go_at_call 12; refine onew_c s6 rfl cS_right (by decide) ?_; rintro b2 w7 s7; have gF := LC.out _ _ (St.pick 2 s7)))
    all_goals
      have s8 := s7.perm [0, 0]
      clear gA gB gC gD gE gF LC
      go_wp2_with (first
        | (go_at_call 15; refine join_c (O := oA) (St.pick 1 s8) HA.out oA_join.2.2 (by decide) (by decide) ?_; rintro la ln lc ca cn cc w9 s9; rw [oA_join.1, oA_join.2.1] at s9)
        | (go_at_call 22; refine take1_c (O := oB) (m := kindM 1) (St.pick 4 s9) HB.out oB_take.2.2.1 rfl (fun w' _ => RdS.none0 w' 1) (by decide) oB_take.2.2.2 (by decide) (by decide) ?_; rintro la2 ln2 lc2 ca2 cn2 cc2 wA sA; rw [oB_take.1, oB_take.2.1] at sA
           obtain ⟨hl, B1, p1, rfl, k1, k2⟩ := let1_rd (OwnS.rd (St.pick 5 sA))
           obtain ⟨hc, B2, p2, rfl, k3⟩ := ch1_rd (OwnS.rd (St.pick 6 sA))
           obtain ⟨hc2, B3, p3, rfl, k4⟩ := ch1_rd (OwnS.rd (St.pick 2 sA))
           have hl2 := let0_rd (OwnS.rd (St.pick 1 sA))
           subst hl; subst hc; subst hc2; subst hl2))
      exact HK.out _ (sA.dropN 9)
end

end Go.Proofs.YtbpdchaeakihkaaGreat
