/- The reference's views: New, Self; Is. -/
import Derived.Test.YtnibgchgcggfbacRefE
import Derived.Test.YtnibgchgcggfbacKeepL
import Derived.Test.YtnibgchgcggfbacViewsK
namespace Go.Proofs.Ytnibgchgcggfbac
open Go.RowKit Go.Qd


section
variable {W w : World} {R : List HP} {post : Ending → World → Prop} {V : VV} {b : Nat}

theorem self_c (st : St W w (ViewsA b V :: R)) (K : post (.returned (.int .i64 V.self)) w) : Calls Try.prog 39 #[.pointer (some ⟨b, 0, none⟩)] w post := by
  have HK := hid K; clear K
  have h0 := (ViewsA.open st).cell
  go_enter Try.func39, Try.ntmps39
  go_wp2
  exact HK.out

/-- A load of whatever type is ONE step for the walk's simp in this text. -/
theorem execOp_loadAny (t : TypeId) (ρ : Operand → Value) (dst : Option Tmp) (a : Operand) (ty : TypeId) (pos : String) (after : Array Edge) (guard : Option (Nat × Bool)) :
    execOp ρ { dst, op := .load t a, type := ty, pos, after, guard } = (do pure (.value (← loadG t (ρ a)))) := rfl

theorem run_load3 {w : World} {B o : Nat} {v : Value} (h : w.cell? ⟨B, o, none⟩ = some v) : (loadG 3 (.pointer (some ⟨B, o, none⟩))).run Try.prog w = .ok v w := by
  unfold loadG
  simp [go_sem, h, Instr.loadAt]

theorem isS_of {T t : Nat} (ht : t = 39) (s : St W w (row T 0 (refCells V) :: R)) : (loadG t (.pointer (some ⟨T, 1, none⟩))).run Try.prog w = .ok (.agg (bits V.a).toArray) w ∧ (loadG t (.pointer (some ⟨T, 13, none⟩))).run Try.prog w = .ok (.agg (bits V.p).toArray) w ∧ (loadG 41 (.pointer (some ⟨T, 0, none⟩))).run Try.prog w = .ok (.agg (refCells V).toArray) w ∧ (loadG 3 (.pointer (some ⟨T, 0, none⟩))).run Try.prog w = .ok (iv V.self) w := by
  subst ht
  exact ⟨run_loadG agg39 (bits_len _) (ref_ra s), run_loadG agg39 (bits_len _) (ref_rp s), run_loadG agg41 (refCells_len _) s.rowAll, run_load3 (ref_self s)⟩

attribute [local go_sem ↓] execOp_loadAny
set_option maxRecDepth 100000 in
set_option maxHeartbeats 4000000 in
theorem is_c (st : St W w (ViewsA b V :: R)) (hV : VOK V) (K : ∀ w', St W w' (ViewsA b V :: R) → post (.returned (.bool true)) w') :
    Calls Try.prog 21 #[.pointer (some ⟨b, 0, none⟩), .agg (refCells V).toArray] w post := by
  have HK := hid K; clear K
  have HSA := hid hV.sa; have HSP := hid hV.sp
  have HNA := hid (fun x hx => (hV.na x hx).1); have HNP := hid (fun x hx => (hV.np x hx).1)
  have HLA := hid (show V.a.length ≤ 4096 from Nat.le_trans hV.na4 (by decide)); have HLP := hid (show V.p.length ≤ 4096 from Nat.le_trans hV.np4 (by decide))
  have HA1 := hid (show V.a.length ≤ 100 by have := hV.la; have := hV.am; omega); have HP1 := hid (show V.p.length ≤ 100 by have := hV.lp; have := hV.pm; omega)
  have HKS := hid (knownL_sorted hV); have HKN := hid (fun x hx => (knownL_told hV (x := x) hx).1)
  have HKM := hid (show ∀ p : Nat, p < 12 → memB (knownL V) (p : Int) = (memB V.a (p : Int) || memB V.p (p : Int)) from fun p _ => by
    rw [Bool.eq_iff_iff, Bool.or_eq_true, memB_iff, memB_iff, memB_iff, mem_knownL]; rfl)
  clear hV
  obtain ⟨fl, hfl⟩ : ∃ fl, decide (V.am ≤ (V.a.length : Int)) = fl := ⟨_, rfl⟩
  have HFL := hid hfl
  clear hfl
  go_enter Try.func21, Try.ntmps21
  go_wp2_with (first
    | (refine wpl_boxA (vs := refCells V) rfl (.tmp 1) rfl rfl st ?_; rintro T w0 s0))
  have s1 := s0.drew
  obtain ⟨t, ht⟩ : ∃ t : TypeId, t = 39 := ⟨39, rfl⟩
  have e39 : ∀ x, Op.load 39 x = Op.load t x := fun x => by rw [ht]
  simp only [e39]
  have HT := hid ht; clear e39 ht
  have g1 := isS_of HT.out s1
  go_region_held3 (fun w' => (loadG t (.pointer (some ⟨T, 1, none⟩))).run Try.prog w' = .ok (.agg (bits V.a).toArray) w' ∧ (loadG t (.pointer (some ⟨T, 13, none⟩))).run Try.prog w' = .ok (.agg (bits V.p).toArray) w' ∧ (loadG 41 (.pointer (some ⟨T, 0, none⟩))).run Try.prog w' = .ok (.agg (refCells V).toArray) w' ∧ (loadG 3 (.pointer (some ⟨T, 0, none⟩))).run Try.prog w' = .ok (iv V.self) w')
    (first
      | with_reducible exact gC
      | with_reducible exact gB
      | with_reducible exact gA
      | with_reducible exact g9
      | with_reducible exact g8
      | with_reducible exact g7
      | with_reducible exact g6
      | with_reducible exact g5
      | with_reducible exact g4
      | with_reducible exact g3
      | with_reducible exact g2
      | with_reducible exact g1)
    (first
      | (go_at_call 11; refine active_c (St.pick 1 s1) HLA.out ?_; rintro a2 c2 w2 s2; have g2 := isS_of HT.out (St.pick 2 s2))
      | (go_at_call 36; first
          | (with_reducible refine list_c (l := V.p) s5 HSP.out HNP.out ?_; rintro a6 c6 w6 s6; have g6 := isS_of HT.out (St.pick 3 s6))
          | (with_reducible refine list_c (l := V.a) s2 HSA.out HNA.out ?_; rintro a3 c3 w3 s3; have g3 := isS_of HT.out (St.pick 3 s3)))
      | (go_at_call 35; first
          | (refine same_c (xs := knownL V) (ys := knownL V) (OwnS.rd (St.pick 1 s9)) (OwnS.rd s9) ?_; rintro kA; rw [decide_eq_true rfl]; have sA := (s9.drewN kA).dropN 2; generalize w9.drewN kA = wA at sA ⊢; have gA := isS_of HT.out (St.pick 1 sA))
          | (refine same_c (xs := V.p) (ys := V.p) (OwnS.rd (St.pick 1 s6)) (OwnS.rd s6) ?_; rintro k7; rw [decide_eq_true rfl]; have s7 := (s6.drewN k7).dropN 2; generalize w6.drewN k7 = w7 at s7 ⊢; have g7 := isS_of HT.out (St.pick 1 s7))
          | (refine same_c (xs := V.a) (ys := V.a) (OwnS.rd (St.pick 1 s3)) (OwnS.rd s3) ?_; rintro k4; rw [decide_eq_true rfl]; have s4 := (s3.drewN k4).dropN 2; generalize w3.drewN k4 = w4 at s4 ⊢; have g4 := isS_of HT.out (St.pick 1 s4)))
      | (go_at_call 17; refine passive_c s4 HLP.out ?_; rintro a5 c5 w5 s5; have g5 := isS_of HT.out (St.pick 2 s5))
      | (go_at_call 16; refine known_c s7 HA1.out HP1.out ?_; rintro a8 c8 w8 s8; have g8 := isS_of HT.out (St.pick 2 s8))
      | (go_at_call 37; refine rknown_c (V := V) (L := knownL V) s8 HKS.out HKN.out HKM.out ?_; rintro a9 c9 w9 s9; have g9 := isS_of HT.out (St.pick 3 s9))
      | (go_at_call 10; refine vfull_c sA ?_; rintro wB sB; rw [HFL.out]; have gB := isS_of HT.out (St.pick 1 sB))
      | (go_at_call 38; refine rfull_c (V := V) sB HSA.out HNA.out ?_; rintro wC sC; rw [HFL.out]; have gC := isS_of HT.out (St.pick 1 sC))
      | (go_at_call 39; refine self_c sC ?_))
  all_goals
    go_wp2
    exact HK.out _ (St.pick 1 sC).drop

end

end Go.Proofs.Ytnibgchgcggfbac
