/- The reference's views: New; an act is done with both. -/
import Derived.Test.YtnibgchgcggfbacRefD
import Derived.Test.YtnibgchgcggfbacViewsM
namespace Go.Proofs.Ytnibgchgcggfbac
open Go.RowKit Go.Qd

theorem execOp_load41 (ρ : Operand → Value) (dst : Option Tmp) (a : Operand) (ty : TypeId) (pos : String) (after : Array Edge) (guard : Option (Nat × Bool)) :
    execOp ρ { dst, op := .load 41 a, type := ty, pos, after, guard } = (do pure (.value (← loadG 41 (ρ a)))) := rfl
theorem execOp_store41 (ρ : Operand → Value) (dst : Option Tmp) (a x : Operand) (ty : TypeId) (pos : String) (after : Array Edge) (guard : Option (Nat × Bool)) :
    execOp ρ { dst, op := .store 41 a x, type := ty, pos, after, guard } = (do storeG 41 (ρ a) (ρ x); pure .skip) := rfl
attribute [local go_sem ↓] execOp_load41 execOp_store41
theorem one41 (V : VV) : oneG (refCells V) 27 := ⟨refCells_len V, refCells_one V⟩
theorem run_store41 {w : World} {b o : Nat} {V : VV} (h : roomG w b o 27) : (storeG 41 (.pointer (some ⟨b, o, none⟩)) (.agg (refCells V).toArray)).run Try.prog w = .ok () (w.setCells b o (refCells V)) := run_storeG agg41 h (one41 V)

section
variable {W w : World} {R : List HP} {post : Ending → World → Prop} {V : VV} {ao : Option Addr} {m c b d : Nat} {D : List Int} {q : Int}

def rG (V : VV) (D : List Int) (q : Int) : Int := if raiseOk V q then raiseG V D else -1

theorem raise_all (st : St W w (ViewsA b V :: DiceA d D :: R)) (hV : VOK V)
    (K : ∀ w', St W w' (ViewsA b (raiseV V D q) :: DiceA d (raiseD V D q) :: R) → post (.returned (.tuple #[.int .i64 (rG V D q), .bool (raiseOk V q)])) w') :
    Calls Try.prog 12 #[.pointer (some ⟨b, 0, none⟩), .int .i64 q, .pointer (some ⟨d, 0, none⟩)] w post := by
  unfold rG at K
  by_cases h : raiseOk V q = true
  · rw [h] at K
    exact raise_yes st hV h K
  · have h' : raiseOk V q = false := by simpa using h
    have e1 : raiseV V D q = V := by unfold raiseV; rw [if_neg h]
    have e2 : raiseD V D q = D := by unfold raiseD; rw [if_neg h]
    rw [h', e1, e2] at K
    exact raise_no st h' (K w st)

theorem rraise_all (st : St W w (RdH W 1 ao m c (ivs D) :: R)) (hV : VOK V)
    (K : ∀ ao' m' c' w', St W w' (RdH W 1 ao' m' c' (ivs (raiseD V D q)) :: R) → post (.returned (.tuple #[.agg (refCells (raiseV V D q)).toArray, .slice ao' m' c', .int .i64 (rG V D q), .bool (raiseOk V q)])) w') :
    Calls Try.prog 32 #[.agg (refCells V).toArray, .slice ao m c, .int .i64 q] w post := by
  unfold rG at K
  by_cases h : raiseOk V q = true
  · rw [h] at K
    exact rraise_yes st hV h K
  · have h' : raiseOk V q = false := by simpa using h
    have e1 : raiseV V D q = V := by unfold raiseV; rw [if_neg h]
    have e2 : raiseD V D q = D := by unfold raiseD; rw [if_neg h]
    rw [h', e1, e2] at K
    exact rraise_no st h' fun w' s => K _ _ _ w' s

theorem rlower_all (st : St W w (RdH W 1 ao m c (ivs D) :: R)) (hV : VOK V)
    (K : ∀ ao' m' c' w', St W w' (RdH W 1 ao' m' c' (ivs (lowerD V D q)) :: R) → post (.returned (.tuple #[.agg (refCells (lowerV V D q)).toArray, .slice ao' m' c', .bool (memB V.a q)])) w') :
    Calls Try.prog 33 #[.agg (refCells V).toArray, .slice ao m c, .int .i64 q] w post := by
  by_cases h : memB V.a q = true
  · rw [h] at K
    exact rlower_yes st hV h K
  · have h' : memB V.a q = false := by simpa using h
    have e1 : lowerV V D q = V := by unfold lowerV; rw [if_neg h]
    have e2 : lowerD V D q = D := by unfold lowerD; rw [if_neg h]
    rw [h', e1, e2] at K
    exact rlower_no st h' fun w' s => K _ _ _ w' s

theorem learn_all (st : St W w (ViewsA b V :: DiceA d D :: R)) (hV : VOK V)
    (K : ∀ w', St W w' (ViewsA b (learnV V D q) :: DiceA d (learnD V D q) :: R) → post (.returned (.bool (learnOk V q))) w') :
    Calls Try.prog 15 #[.pointer (some ⟨b, 0, none⟩), .int .i64 q, .pointer (some ⟨d, 0, none⟩)] w post := by
  by_cases h : learnOk V q = true
  · rw [h] at K
    exact learn_yes st hV h K
  · have h' : learnOk V q = false := by simpa using h
    have e1 : learnV V D q = V := by unfold learnV; rw [if_neg h]
    have e2 : learnD V D q = D := by unfold learnD; rw [if_neg h]
    rw [h', e1, e2] at K
    exact learn_no st h' (K w st)

theorem rlearn_all (st : St W w (RdH W 1 ao m c (ivs D) :: R)) (hV : VOK V)
    (K : ∀ ao' m' c' w', St W w' (RdH W 1 ao' m' c' (ivs (learnD V D q)) :: R) → post (.returned (.tuple #[.agg (refCells (learnV V D q)).toArray, .slice ao' m' c', .bool (learnOk V q)])) w') :
    Calls Try.prog 34 #[.agg (refCells V).toArray, .slice ao m c, .int .i64 q] w post := by
  by_cases h : learnOk V q = true
  · rw [h] at K
    exact rlearn_yes st hV h K
  · have h' : learnOk V q = false := by simpa using h
    have e1 : learnV V D q = V := by unfold learnV; rw [if_neg h]
    have e2 : learnD V D q = D := by unfold learnD; rw [if_neg h]
    rw [h', e1, e2] at K
    exact rlearn_no st h' fun w' s => K _ _ _ w' s

def actV (V : VV) (D : List Int) (kind q : Int) : VV := if kind = 0 then raiseV V D q else if kind = 1 then lowerV V D q else learnV V D q
def actD (V : VV) (D : List Int) (kind q : Int) : List Int := if kind = 0 then raiseD V D q else if kind = 1 then lowerD V D q else learnD V D q

set_option maxRecDepth 100000 in
set_option maxHeartbeats 1600000 in
theorem do_c {kind ask : Int} (st : St W w (ViewsA b V :: DiceA d D :: RdH W 1 ao m c (ivs D) :: R)) (hV : VOK V)
    (K : ∀ ao' m' c' w', St W w' (ViewsA b (actV V D kind q) :: DiceA d (actD V D kind q) :: RdH W 1 ao' m' c' (ivs (actD V D kind q)) :: R) → post (.returned (.tuple #[.agg (refCells (actV V D kind q)).toArray, .slice ao' m' c', .bool true])) w') :
    Calls Try.prog 20 #[.pointer (some ⟨b, 0, none⟩), .pointer (some ⟨d, 0, none⟩), .agg (refCells V).toArray, .slice ao m c, .agg #[.int .i64 kind, .int .i64 q, .int .i64 ask]] w post := by
  have HK := hid K; clear K
  have HV := hid hV; clear hV
  by_cases h0 : kind = 0
  · subst h0
    have e1 : actV V D 0 q = raiseV V D q := by unfold actV; rw [if_pos rfl]
    have e2 : actD V D 0 q = raiseD V D q := by unfold actD; rw [if_pos rfl]
    rw [e1, e2] at HK
    clear e1 e2
    go_enter Try.func20, Try.ntmps20
    go_wp2_with (first
      | (refine wpl_boxA (vs := refCells V) rfl (.tmp 2) rfl rfl st ?_; rintro B w1 s1)
      | (refine wpl_boxA (vs := [.int .i64 0, .int .i64 q, .int .i64 ask]) rfl (.tmp 4) rfl rfl s1 ?_; rintro A w2 s2)
      | (refine wpl_allocA rfl rfl zero41 s2 ?_; rintro E w3 s3; obtain ⟨h0, h1, h2⟩ := box3 (St.pick 1 s3))
      | (refine wpl_loadA (vs := refCells V) rfl (.tmp 7) (by rfl) agg41 (by rfl) (refCells_len _) (St.pick 2 s3).rowAll ?_)
      | (go_at_call 32; refine rraise_all (St.pick 5 s3) HV.out ?_; rintro a4 m4 c4 w4 s4)
      | (refine wpl_allocA rfl rfl zero41 s4 ?_; rintro C w5 s5)
      | (refine wpl_storeA (vs := refCells (raiseV V D q)) rfl (.tmp 13) (.tmp 35) (by rfl) agg41 (by rfl) (by rfl) (refCells_len _) (refCells_one _) s5 rfl ?_; rintro w6 s6; obtain ⟨k0, k1, k2⟩ := box3 (St.pick 3 s6))
      | (go_at_call 12; refine raise_all (St.perm [5, 5] s6) HV.out ?_; rintro w7 s7; have s8 := St.pick 2 s7)
      | (refine wpl_loadA (vs := refCells (raiseV V D q)) rfl (.tmp 13) (by rfl) agg41 (by rfl) (refCells_len _) s8.rowAll ?_)
      | (refine wpl_storeA (vs := refCells (raiseV V D q)) rfl (.tmp 10) (.tmp 47) (by rfl) agg41 (by rfl) (by rfl) (refCells_len _) (refCells_one _) (St.pick 4 s8) rfl ?_; rintro w9 s9))
    have hL := run_loadA agg41 (refCells_len _) s9.rowAll
    exact bodyPost_ret (v := .tuple #[.agg (refCells (raiseV V D q)).toArray, .slice a4 m4 c4, .bool true]) (by simp [results, Try.results20, asAddr, hL]) rfl (HK.out _ _ _ _ (St.pick 3 (St.pick 3 (s9.dropN 2)).drop).drop)
  by_cases h1 : kind = 1
  · subst h1
    have e1 : actV V D 1 q = lowerV V D q := by unfold actV; rw [if_neg (by decide), if_pos rfl]
    have e2 : actD V D 1 q = lowerD V D q := by unfold actD; rw [if_neg (by decide), if_pos rfl]
    rw [e1, e2] at HK
    clear e1 e2
    go_enter Try.func20, Try.ntmps20
    go_wp2_with (first
      | (refine wpl_boxA (vs := refCells V) rfl (.tmp 2) rfl rfl st ?_; rintro B w1 s1)
      | (refine wpl_boxA (vs := [.int .i64 1, .int .i64 q, .int .i64 ask]) rfl (.tmp 4) rfl rfl s1 ?_; rintro A w2 s2)
      | (refine wpl_allocA rfl rfl zero41 s2 ?_; rintro E w3 s3; obtain ⟨h0, h1, h2⟩ := box3 (St.pick 1 s3))
      | (refine wpl_loadA (vs := refCells V) rfl (.tmp 7) (by rfl) agg41 (by rfl) (refCells_len _) (St.pick 2 s3).rowAll ?_)
      | (go_at_call 33; refine rlower_all (St.pick 5 s3) HV.out ?_; rintro a4 m4 c4 w4 s4)
      | (refine wpl_allocA rfl rfl zero41 s4 ?_; rintro C w5 s5)
      | (refine wpl_storeA (vs := refCells (lowerV V D q)) rfl (.tmp 19) (.tmp 65) (by rfl) agg41 (by rfl) (by rfl) (refCells_len _) (refCells_one _) s5 rfl ?_; rintro w6 s6))
    have s7 := (St.perm [5, 5] s6).drew
    have f1 := run_loadG agg41 (refCells_len _) (St.pick 2 s7).rowAll
    have f2 := (box3 (St.pick 5 s7)).2.1
    have f3 := run_store41 (V := lowerV V D q) ((St.pick 4 s7).roomG (n := 27) rfl)
    have fA := And.intro f1 (And.intro f2 f3)
    clear f1 f2 f3
    go_region_held3 (fun w' => (loadG 41 (.pointer (some ⟨C, 0, none⟩))).run Try.prog w' = .ok (.agg (refCells (lowerV V D q)).toArray) w' ∧ w'.cell? ⟨A, 1, none⟩ = some (iv q) ∧ (storeG 41 (.pointer (some ⟨E, 0, none⟩)) (.agg (refCells (lowerV V D q)).toArray)).run Try.prog w' = .ok () (w'.setCells E 0 (refCells (lowerV V D q))))
      (first
        | with_reducible exact fA
        | with_reducible exact g8
        | with_reducible exact g9)
      (first | (go_at_call 14; refine lower_c s7 HV.out ?_; rintro w8 s8; have g8 := And.intro (run_loadG (vs := refCells (lowerV V D q)) agg41 (refCells_len _) (St.pick 2 s8).rowAll) (And.intro (box3 (St.pick 5 s8)).2.1 (run_store41 (V := lowerV V D q) ((St.pick 4 s8).roomG (n := 27) rfl))); have s9 := (St.pick 4 s8).setAll (vs := refCells (lowerV V D q)) (by rw [refCells_len]; rfl); have g9 := And.intro (run_loadG (vs := refCells (lowerV V D q)) agg41 (refCells_len _) (St.pick 3 s9).rowAll) (And.intro (box3 (St.pick 5 s9)).2.1 (run_store41 (V := lowerV V D q) (s9.roomG (n := 27) (refCells_len _))))))
    all_goals
      go_wp2
      have hL := run_loadA agg41 (refCells_len _) s9.rowAll
      exact bodyPost_ret (v := .tuple #[.agg (refCells (lowerV V D q)).toArray, .slice a4 m4 c4, .bool true]) (by simp [results, Try.results20, asAddr, hL]) rfl (HK.out _ _ _ _ ((s9.perm [0, 2, 3, 3]).dropN 4))
  · have e1 : actV V D kind q = learnV V D q := by unfold actV; rw [if_neg h0, if_neg h1]
    have e2 : actD V D kind q = learnD V D q := by unfold actD; rw [if_neg h0, if_neg h1]
    rw [e1, e2] at HK
    have hb0 : (kind == 0) = false := by simpa using h0
    have hb1 : (kind == 1) = false := by simpa using h1
    clear e1 e2 h0 h1
    go_enter Try.func20, Try.ntmps20
    go_wp2_with (first
      | (refine wpl_boxA (vs := refCells V) rfl (.tmp 2) rfl rfl st ?_; rintro B w1 s1)
      | (refine wpl_boxA (vs := [.int .i64 kind, .int .i64 q, .int .i64 ask]) rfl (.tmp 4) rfl rfl s1 ?_; rintro A w2 s2)
      | (refine wpl_allocA rfl rfl zero41 s2 ?_; rintro E w3 s3; obtain ⟨h0, h1, h2⟩ := box3 (St.pick 1 s3))
      | (refine wpl_loadA (vs := refCells V) rfl (.tmp 7) (by rfl) agg41 (by rfl) (refCells_len _) (St.pick 2 s3).rowAll ?_)
      | (go_at_call 34; refine rlearn_all (St.pick 5 s3) HV.out ?_; rintro a4 m4 c4 w4 s4)
      | (refine wpl_allocA rfl rfl zero41 s4 ?_; rintro C w5 s5)
      | (refine wpl_storeA (vs := refCells (learnV V D q)) rfl (.tmp 22) (.tmp 83) (by rfl) agg41 (by rfl) (by rfl) (refCells_len _) (refCells_one _) s5 rfl ?_; rintro w6 s6))
    have s7 := (St.perm [5, 5] s6).drew
    have f1 := run_loadG agg41 (refCells_len _) (St.pick 2 s7).rowAll
    have f2 := (box3 (St.pick 5 s7)).2.1
    have f3 := run_store41 (V := learnV V D q) ((St.pick 4 s7).roomG (n := 27) rfl)
    have fA := And.intro f1 (And.intro f2 f3)
    clear f1 f2 f3
    go_region_held3 (fun w' => (loadG 41 (.pointer (some ⟨C, 0, none⟩))).run Try.prog w' = .ok (.agg (refCells (learnV V D q)).toArray) w' ∧ w'.cell? ⟨A, 1, none⟩ = some (iv q) ∧ (storeG 41 (.pointer (some ⟨E, 0, none⟩)) (.agg (refCells (learnV V D q)).toArray)).run Try.prog w' = .ok () (w'.setCells E 0 (refCells (learnV V D q))))
      (first
        | with_reducible exact fA
        | with_reducible exact g8
        | with_reducible exact g9)
      (first | (go_at_call 15; refine learn_all s7 HV.out ?_; rintro w8 s8; have g8 := And.intro (run_loadG (vs := refCells (learnV V D q)) agg41 (refCells_len _) (St.pick 2 s8).rowAll) (And.intro (box3 (St.pick 5 s8)).2.1 (run_store41 (V := learnV V D q) ((St.pick 4 s8).roomG (n := 27) rfl))); have s9 := (St.pick 4 s8).setAll (vs := refCells (learnV V D q)) (by rw [refCells_len]; rfl); have g9 := And.intro (run_loadG (vs := refCells (learnV V D q)) agg41 (refCells_len _) (St.pick 3 s9).rowAll) (And.intro (box3 (St.pick 5 s9)).2.1 (run_store41 (V := learnV V D q) (s9.roomG (n := 27) (refCells_len _))))))
    all_goals
      go_wp2
      have hL := run_loadA agg41 (refCells_len _) s9.rowAll
      exact bodyPost_ret (v := .tuple #[.agg (refCells (learnV V D q)).toArray, .slice a4 m4 c4, .bool true]) (by simp [results, Try.results20, asAddr, hL]) rfl (HK.out _ _ _ _ ((s9.perm [0, 2, 3, 3]).dropN 4))

end

end Go.Proofs.Ytnibgchgcggfbac
