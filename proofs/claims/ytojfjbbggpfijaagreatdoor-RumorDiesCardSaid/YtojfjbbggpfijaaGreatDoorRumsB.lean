/- RumsB: several texts, joined. A mill: is a rumor fresh? Printed by mkRumS.py. -/
import Derived.Test.YtojfjbbggpfijaaGreatDoorRumsA
import Derived.Test.YtojfjbbggpfijaaGreatDoorRepsM
import Derived.Test.YtojfjbbggpfijaaGreatDoorAggs
import Derived.Test.YtojfjbbggpfijaaGreatDoorMils
import Derived.Test.YtojfjbbggpfijaaGreatDoorMsgs
namespace Go.Proofs.YtojfjbbggpfijaaGreatDoor
open Go.RowKit Go.Qd RepV

def eqAG (x y : Operand) (a b : Value) : Sem Value := do eqGuard .eql 57 x y a b; Go.binOp .eql 57 a b
theorem execOp_eqAG (ρ : Operand → Value) (dst : Option Tmp) (x y : Operand) (r : TypeId) (ty : TypeId) (pos : String) (after : Array Edge) (guard : Option (Nat × Bool)) :
    execOp ρ { dst, op := .binOp .eql 57 x y r, type := ty, pos, after, guard } = (do pure (.value (← eqAG x y (ρ x) (ρ y)))) := by simp [execOp, eqAG]
theorem execOp_stEnR (ρ : Operand → Value) (dst : Option Tmp) (a x : Operand) (ty : TypeId) (pos : String) (after : Array Edge) (guard : Option (Nat × Bool)) :
    execOp ρ { dst, op := .store 67 a x, type := ty, pos, after, guard } = (do storeG 67 (ρ a) (ρ x); pure .skip) := rfl
def actEq (a b c d : Int) : Bool := decide (a = c) && decide (b = d)
theorem run_eqAG (x y : Operand) (a b c d : Int) (w : World) : (eqAG x y (.agg [.int .i64 a, .int .i64 b].toArray) (.agg [.int .i64 c, .int .i64 d].toArray)).run Tryz.prog w = .ok (.bool (actEq a b c d)) w := by
  unfold eqAG actEq
  go_simp
  by_cases h1 : a = c <;> by_cases h2 : b = d <;> simp [h1, h2]
/-- Is a rumor not stale? -/
def freshB (r : RepV) (t : TkV) : Bool := thas r.tab t.m.key && actEq (tget r.tab t.m.key).ac (tget r.tab t.m.key).az t.m.c t.m.s
section
variable {W w : World} {R : List HP} {post : Ending → World → Prop} {c : List Int} {b dp : Nat} {A : RAd} {r : RepV}
section
attribute [local go_sem ↓] execOp_ldAny execOp_eqAG execOp_stEnR
attribute [local go_sem] run_eqAG
set_option maxRecDepth 100000 in
set_option maxHeartbeats 4000000 in
theorem fresh_c {a : Option Addr} {n cp : Nat} {x : TkV} (hc : c.length = 20) (hr : RepOK r) (st : St W w (RepA A r :: row b 0 (millC A.p c dp a n cp) :: R))
    (K : ∀ w', St W w' (RepA A r :: row b 0 (millC A.p c dp a n cp) :: R) → post (.returned (.bool (freshB r x))) w') :
    Calls Tryz.prog 55 #[.pointer (some ⟨b, 0, none⟩), .agg x.cells.toArray] w post := by
  have HK := hid K; clear K
  have HC := hid hc; have HR := hid hr
  obtain ⟨e, he⟩ : ∃ e, tget r.tab x.m.key = e := ⟨_, rfl⟩
  obtain ⟨t, ht⟩ : ∃ t, thas r.tab x.m.key = t := ⟨_, rfl⟩
  have HF : Hid (freshB r x = (t && actEq e.ac e.az x.m.c x.m.s)) := hid (by unfold freshB; rw [he, ht])
  have HE := hid he; have HT := hid ht
  rw [HF.out] at HK
  clear hc hr he ht HF
  go_enter Tryz.func55, Tryz.ntmps55
  go_upto_region 1 with (refine wpl_boxA (vs := x.cells) rfl (.tmp 1) rfl rfl st ?_; rintro T w1 s1)
  try simp only [Act.put, List.setIfInBounds_toArray, List.set_cons_succ, List.set_cons_zero]
  go_cut [5, 6] (fun ee oo wx => ∃ E, ee = .pointer (some ⟨E, 0, none⟩) ∧ oo = .bool t ∧ St W wx (row E 0 e.cells :: row T 0 x.cells :: RepA A r :: row b 0 (millC A.p c dp a n cp) :: R))
  case first =>
    have u := s1.drew
    have fact : ∀ {w' : World} {R' : List HP}, St W w' (row b 0 (millC A.p c dp a n cp) :: R') → (loadG 29 (.pointer (some ⟨b, 0, none⟩))).run Tryz.prog w' = .ok (.pointer (some ⟨A.p, 0, none⟩)) w' := fun s => run_ldP (by kernel_rfl) (mill_at HC.out s).1
    have facT : ∀ {w' : World} {R' : List HP}, St W w' (row T 0 x.cells :: R') → (loadG 9 (.pointer (some ⟨T, 2, none⟩))).run Tryz.prog w' = .ok (.string x.m.key) w' := fun s => run_ldP (by kernel_rfl) (by have := s.rowCell (i := 2) (v := .string x.m.key) rfl; rwa [Nat.zero_add] at this)
    have FACT : Hid (∀ {w' : World} {R' : List HP}, St W w' (row b 0 (millC A.p c dp a n cp) :: R') → (loadG 29 (.pointer (some ⟨b, 0, none⟩))).run Tryz.prog w' = .ok (.pointer (some ⟨A.p, 0, none⟩)) w') := hid fact
    have FACU : Hid (∀ {w' : World} {R' : List HP}, St W w' (row T 0 x.cells :: R') → (loadG 9 (.pointer (some ⟨T, 2, none⟩))).run Tryz.prog w' = .ok (.string x.m.key) w') := hid facT
    clear fact facT
    have gA := And.intro (FACT.out (St.pick 2 u)) (FACU.out u)
    have u2 := (s1.alloc EnV.zero.cells.toArray 67).drew
    have gB := And.intro (FACT.out (St.pick 3 u2)) (FACU.out (St.pick 1 u2))
    have gz := zero_en
    have hone : oneG e.cells 9 := ⟨rfl, env_one _⟩
    go_region_held3 (fun w' => (loadG 29 (.pointer (some ⟨b, 0, none⟩))).run Tryz.prog w' = .ok (.pointer (some ⟨A.p, 0, none⟩)) w' ∧ (loadG 9 (.pointer (some ⟨T, 2, none⟩))).run Tryz.prog w' = .ok (.string x.m.key) w')
      (first
        | with_reducible exact gE
        | with_reducible exact gD
        | with_reducible exact gC
        | with_reducible exact gB
        | with_reducible exact gA)
      (first
        | (go_at_call 15; first
            | (refine entry_c HR.out (St.pick 1 u) ?_; rintro w5 t5; rw [HE.out, HT.out]; have s5 : St W w5 (row T 0 x.cells :: RepA A r :: row b 0 (millC A.p c dp a n cp) :: R) := St.pick 1 t5; have gC := And.intro (FACT.out (St.pick 2 s5)) (FACU.out s5); have u5 := s5.alloc EnV.zero.cells.toArray 67; have gD := And.intro (FACT.out (St.pick 3 u5)) (FACU.out (St.pick 1 u5)); have rB := run_storeG agg_en (b := w5.heap.size) (o := 0) (u5.roomG rfl) hone; have u6 := u5.setAll (vs := e.cells) rfl; have gE := And.intro (FACT.out (St.pick 3 u6)) (FACU.out (St.pick 1 u6)))
            | (refine entry_c HR.out (St.pick 2 u2) ?_; rintro w5 t5; rw [HE.out, HT.out]; have s5 : St W w5 (row w1.heap.size 0 EnV.zero.cells :: row T 0 x.cells :: RepA A r :: row b 0 (millC A.p c dp a n cp) :: R) := t5.perm [1, 1]; have gC := And.intro (FACT.out (St.pick 3 s5)) (FACU.out (St.pick 1 s5)); have rB := run_storeG agg_en (b := w1.heap.size) (o := 0) (s5.roomG rfl) hone; have u6 := s5.setAll (vs := e.cells) rfl; have gE := And.intro (FACT.out (St.pick 3 u6)) (FACU.out (St.pick 1 u6)))))
    all_goals
      go_wp2_with fail
      go_meet
      case rel => exact ⟨_, rfl, rfl, u6⟩
  case rest =>
  obtain ⟨E, rfl, rfl, s7⟩ := hcut
  have l0 := (enL s7).2.2.2.2.1
  have l1 := run_loadG agg_st (vs := [.int .i64 x.m.c, .int .i64 x.m.s]) rfl (St.rowPart (St.pick 1 s7) 0 (xs := [.int .i64 x.m.c, .int .i64 x.m.s]) (ys := [.string x.m.key, .int .i64 x.n]) rfl)
  cases t with
  | false =>
    go_wp2_with fail
    exact HK.out _ ((s7.drop).drop)
  | true =>
    go_wp2_with fail
    exact HK.out _ ((s7.drop).drop)
end
end
end Go.Proofs.YtojfjbbggpfijaaGreatDoor

/- A mill: what is told. Printed by mkRumT.py. -/
namespace Go.Proofs.YtojfjbbggpfijaaGreatDoor
open Go.RowKit Go.Qd RepV

def stC (ks : List ByteArray) : List Value := ks.map Value.string
theorem stC_ln {w : World} {ao : Option Addr} {n c : Nat} {ks : List ByteArray} (rd : RdS w 1 ao n c (stC ks)) : ks.length = n := by have := rd.len; unfold stC at this; simpa using this
def hasS (ks : List ByteArray) (k : ByteArray) : Bool := ks.any fun x => k.toList == x.toList
section
variable {W w : World} {R : List HP} {post : Ending → World → Prop} {c : List Int} {b dp : Nat} {A : RAd} {r : RepV}
section
attribute [local go_sem ↓] execOp_ldAny
set_option maxRecDepth 100000 in
set_option maxHeartbeats 4000000 in
theorem stIdx_c {ao : Option Addr} {n cp : Nat} {ks : List ByteArray} {k : ByteArray} (rd : RdS w 1 ao n cp (stC ks))
    (K0 : hasS ks k = false → post (.returned (.int .i64 (-1))) w) (K1 : ∀ i : Nat, hasS ks k = true → post (.returned (.int .i64 i)) w) :
    Calls Tryz.prog 143 #[.slice ao n cp, .string k] w post := by
  have HK0 := hid K0; have HK1 := hid K1; clear K0 K1
  have hl : ks.length = n := stC_ln rd
  have HL := hid hl
  have hbig := rd.big
  clear hl
  go_enter Tryz.func143, Tryz.ntmps143
  go_wp2_with fail
  go_loopw [8] (fun ii wr => ∃ i : Nat, i ≤ n ∧ ii = .int .i64 i ∧ Hid (hasS (ks.take i) k = false) ∧ wr = w) (fun ii _ => n - (intOf ii).toNat)
  case atStart => exact ⟨0, Nat.zero_le _, rfl, hid rfl, rfl⟩
  case round =>
    obtain ⟨i, hi, rfl, HA, rfl⟩ := hrel
    by_cases hlt : i < n
    · have hi2 : (i : Int) < (n : Int) := by omega
      have hiL : i < ks.length := by rw [HL.out]; exact hlt
      obtain ⟨gb, go, rfl⟩ := rd.addr (by omega)
      have l0 := run_ldP (t := 9) (by kernel_rfl) (rd.at (i := i) (u := .string ks[i]) (by unfold stC; rw [List.getElem?_map, List.getElem?_eq_getElem hiL]; rfl))
      obtain ⟨x, hx⟩ : ∃ x, ks[i] = x := ⟨_, rfl⟩
      rw [hx] at l0
      obtain ⟨t, ht⟩ : ∃ t, (k.toList == x.toList) = t := ⟨_, rfl⟩
      have HT : Hid (hasS (ks.take (i + 1)) k = t) := hid (by unfold hasS; rw [List.take_succ_eq_append_getElem hiL, List.any_append]; have := HA.out; unfold hasS at this; rw [this, hx]; simp [ht])
      have HY : Hid (hasS (ks.take (i + 1)) k = true → hasS ks k = true) := hid (fun h => by unfold hasS at h ⊢; obtain ⟨y, hy, e⟩ := List.any_eq_true.1 h; exact List.any_eq_true.2 ⟨y, List.mem_of_mem_take hy, e⟩)
      clear hx hiL
      cases t with
      | true =>
        go_wp2_with fail
        exact HK1.out i (HY.out HT.out)
      | false =>
        go_wp2_with fail
        go_roundw
        case rel => exact ⟨i + 1, by omega, by go_num, hid HT.out, by trivial⟩
        case measure => simp [intOf]; omega
    · have hie : i = n := by omega
      subst hie
      have ha := HA.out
      rw [List.take_of_length_le (by rw [HL.out]; exact Nat.le_refl _)] at ha
      have HA2 := hid ha; clear ha
      go_wp2_with fail
      exact HK0.out HA2.out
theorem stHas_c {ao : Option Addr} {n cp : Nat} {ks : List ByteArray} {k : ByteArray} (rd : RdS w 1 ao n cp (stC ks)) (K : post (.returned (.bool (hasS ks k))) w) :
    Calls Tryz.prog 91 #[.slice ao n cp, .string k] w post := by
  have HK := hid K; clear K
  obtain ⟨t, ht⟩ : ∃ t, hasS ks k = t := ⟨_, rfl⟩
  rw [ht] at HK
  have HT := hid ht; clear ht
  go_enter Tryz.func91, Tryz.ntmps91
  cases t with
  | false =>
    go_wp2_with (go_at_call 143; refine stIdx_c rd (fun _ => ?_) (fun i h => absurd h (by rw [HT.out]; decide)))
    exact HK.out
  | true =>
    go_wp2_with (go_at_call 143; refine stIdx_c rd (fun h => absurd h (by rw [HT.out]; decide)) (fun i _ => ?_); have hi0 : (0 : Int) ≤ (i : Int) := by omega)
    exact HK.out
end

/-- What is told of some rumors, as if some keys weren't there. -/
def toldL (r : RepV) (ch : Int) (ks : List ByteArray) (l : List TkV) : List EnV :=
  l.foldl (fun o t => if (decide ((o.length : Int) < ch) && (freshB r t && !hasS ks t.m.key)) = true then o ++ [tget r.tab t.m.key] else o) []
theorem toldL_step {r : RepV} {ch : Int} {ks : List ByteArray} {l : List TkV} {i : Nat} (h : i < l.length) : toldL r ch ks (l.take (i + 1)) =
    if (decide (((toldL r ch ks (l.take i)).length : Int) < ch) && (freshB r l[i] && !hasS ks l[i].m.key)) = true then toldL r ch ks (l.take i) ++ [tget r.tab l[i].m.key] else toldL r ch ks (l.take i) := by
  unfold toldL; rw [List.take_succ_eq_append_getElem h, List.foldl_append]; rfl
def bsEn (x : Value) : Sem Value := Instr.buildSlice 54 1 #[(0, x)]
theorem execOp_bsEn (ρ : Operand → Value) (dst : Option Tmp) (x : Operand) (ty : TypeId) (pos : String) (after : Array Edge) (guard : Option (Nat × Bool)) :
    execOp ρ { dst, op := .buildSlice 54 1 #[(0, x)], type := ty, pos, after, guard } = (do pure (.value (← bsEn (ρ x)))) := by simp [execOp, bsEn]
theorem run_bsEn (x : EnV) (w : World) : (bsEn (.agg x.cells.toArray)).run Tryz.prog w = .ok (.slice (some ⟨w.heap.size, 0, none⟩) 1 1) (w.alloc (.cells x.cells.toArray 67)) := by kernel_rfl
section
attribute [local go_sem ↓] execOp_ldAny execOp_bsEn execOp_stEnR
attribute [local go_sem] run_bsEn
set_option maxRecDepth 100000 in
set_option maxHeartbeats 8000000 in
theorem told_c {a ab : Option Addr} {n cp nb cb : Nat} {l : List TkV} {ks : List ByteArray} (hc : c.length = 20) (hn : n ≤ 4096) (hr : RepOK r)
    (st : St W w (RepA A r :: OwnS 4 a n cp (tkC l) :: row b 0 (millC A.p c dp a n cp) :: OwnS 1 ab nb cb (stC ks) :: R))
    (K : ∀ ao m c' w', St W w' (OwnS 9 ao m c' (enC (toldL r (c.getD 17 0) ks l)) :: RepA A r :: OwnS 4 a n cp (tkC l) :: row b 0 (millC A.p c dp a n cp) :: OwnS 1 ab nb cb (stC ks) :: R) → post (.returned (.slice ao m c')) w') :
    Calls Tryz.prog 42 #[.pointer (some ⟨b, 0, none⟩), .slice ab nb cb] w post := by
  have HK := hid K; clear K
  have hl : l.length = n := tkC_ln (OwnS.rd (St.pick 1 st))
  have HL := hid hl
  have HC := hid hc; have HR := hid hr
  obtain ⟨z, hz⟩ : ∃ z, c.getD 17 0 = z := ⟨_, rfl⟩
  rw [hz] at HK
  have HZ := hid hz
  have l2 := run_ldP (t := 117) (by kernel_rfl) (mill_at hc (St.pick 2 st)).2.2.1
  have lz : Hid (∀ {w' : World} {R' : List HP}, St W w' (row b 0 (millC A.p c dp a n cp) :: R') → (loadG 3 (.pointer (some ⟨b, 18, none⟩))).run Tryz.prog w' = .ok (.int .i64 z) w') := hid (fun s => run_ldP (by kernel_rfl) (by have := mill_cfg HC.out s (i := 17) (by decide); rw [HZ.out] at this; exact this))
  have lk : Hid (∀ {w' : World} {R' : List HP} {T : Nat} {x : TkV}, St W w' (row T 0 x.cells :: R') → (loadG 9 (.pointer (some ⟨T, 2, none⟩))).run Tryz.prog w' = .ok (.string x.m.key) w') := hid (fun s => run_ldP (by kernel_rfl) (by have := s.rowCell (i := 2) rfl; rw [Nat.zero_add] at this; exact this))
  have FACT : Hid (∀ {w' : World} {R' : List HP}, St W w' (row b 0 (millC A.p c dp a n cp) :: R') → (loadG 29 (.pointer (some ⟨b, 0, none⟩))).run Tryz.prog w' = .ok (.pointer (some ⟨A.p, 0, none⟩)) w') := hid (fun s => run_ldP (by kernel_rfl) (mill_at HC.out s).1)
  clear hc hl hz hr
  go_enter Tryz.func42, Tryz.ntmps42
  go_wp2_with fail
  go_loopw [5, 15] (fun oo ii wr => ∃ i : Nat, ∃ ao m cc, i ≤ n ∧ m ≤ i ∧ oo = .slice ao m cc ∧ ii = .int .i64 i ∧ St W wr (OwnS 9 ao m cc (enC (toldL r z ks (l.take i))) :: RepA A r :: OwnS 4 a n cp (tkC l) :: row b 0 (millC A.p c dp a n cp) :: OwnS 1 ab nb cb (stC ks) :: R)) (fun _ ii _ => n - (intOf ii).toNat)
  case atStart => exact ⟨0, none, 0, 0, Nat.zero_le _, Nat.zero_le _, rfl, rfl, OwnS.none0 st⟩
  case round =>
    obtain ⟨i, ao, m, cc, hi, hmi, rfl, rfl, sr⟩ := hrel
    by_cases hlt : i < n
    · have hi2 : (i : Int) < (n : Int) := by omega
      have hiL : i < l.length := by rw [HL.out]; exact hlt
      have rd := OwnS.rd (St.pick 2 sr)
      have hmL := enC_ln (OwnS.rd sr)
      have HSTEP := hid (toldL_step (r := r) (ch := z) (ks := ks) hiL)
      obtain ⟨gb, go, rfl⟩ := rd.addr (by omega)
      have l0 := tkC_ld rd hiL
      obtain ⟨x, hx⟩ : ∃ x, l[i] = x := ⟨_, rfl⟩
      rw [hx] at l0 HSTEP
      rw [hmL] at HSTEP
      obtain ⟨L0, hL0⟩ : ∃ L0, toldL r z ks (l.take i) = L0 := ⟨_, rfl⟩
      rw [hL0] at HSTEP sr
      obtain ⟨e, he⟩ : ∃ e, tget r.tab x.m.key = e := ⟨_, rfl⟩
      obtain ⟨f, hf⟩ : ∃ f, freshB r x = f := ⟨_, rfl⟩
      obtain ⟨h, hh⟩ : ∃ h, hasS ks x.m.key = h := ⟨_, rfl⟩
      obtain ⟨q, hq⟩ : ∃ q, decide ((m : Int) < z) = q := ⟨_, rfl⟩
      rw [he, hf, hh, hq] at HSTEP
      have HE := hid he; have HF := hid hf; have HH := hid hh
      have hb1 : (m + 1) * 88 ≤ 140737488355328 := by omega
      have hm1 : m + 1 ≤ maxLen := by unfold maxLen; omega
      clear hx rd hiL hmL hL0 he hf hh
      have stay : Hid ((q && (f && !h)) = false → toldL r z ks (l.take (i + 1)) = L0) := hid (fun g => by rw [HSTEP.out, g]; rfl)
      have more : Hid ((q && (f && !h)) = true → toldL r z ks (l.take (i + 1)) = L0 ++ [e]) := hid (fun g => by rw [HSTEP.out, g]; rfl)
      clear HSTEP
      cases q with
      | false =>
        go_wp2_with (first
          | (refine wpl_allocA (vs := [.int .i64 0, .int .i64 0, .string ByteArray.empty, .int .i64 0]) rfl rfl (fun _ => by kernel_rfl) sr ?_; rintro T w2 s2)
          | (refine wpl_storeA (vs := x.cells) rfl (.tmp 7) (.tmp 18) (by rfl) agg_tk (by rfl) (by rfl) rfl (tk_one _) s2 rfl ?_; rintro w3 s3; have l3 := lz.out (St.pick 4 s3); have l4 := run_loadG agg_tk (vs := x.cells) rfl s3.rowAll))
        go_roundw
        case rel => exact ⟨i + 1, ao, m, cc, by omega, by omega, rfl, by go_num, by rw [stay.out (by simp)]; exact s3.drop⟩
        case measure => simp [intOf]; omega
      | true =>
        cases f with
        | false =>
          go_wp2_with (first
            | (refine wpl_allocA (vs := [.int .i64 0, .int .i64 0, .string ByteArray.empty, .int .i64 0]) rfl rfl (fun _ => by kernel_rfl) sr ?_; rintro T w2 s2)
            | (refine wpl_storeA (vs := x.cells) rfl (.tmp 7) (.tmp 18) (by rfl) agg_tk (by rfl) (by rfl) rfl (tk_one _) s2 rfl ?_; rintro w3 s3; have l3 := lz.out (St.pick 4 s3); have l4 := run_loadG agg_tk (vs := x.cells) rfl s3.rowAll)
            | (go_at_call 55; refine fresh_c HC.out HR.out (s3.perm [2, 3]) ?_; rintro w4 s4; rw [HF.out]; have l5 := lk.out (St.pick 2 s4)))
          go_roundw
          case rel => exact ⟨i + 1, ao, m, cc, by omega, by omega, rfl, by go_num, by rw [stay.out (by simp)]; exact (((s4.pick 2).drop).perm [2, 0, 1])⟩
          case measure => simp [intOf]; omega
        | true =>
          cases h with
          | true =>
            go_wp2_with (first
              | (refine wpl_allocA (vs := [.int .i64 0, .int .i64 0, .string ByteArray.empty, .int .i64 0]) rfl rfl (fun _ => by kernel_rfl) sr ?_; rintro T w2 s2)
              | (refine wpl_storeA (vs := x.cells) rfl (.tmp 7) (.tmp 18) (by rfl) agg_tk (by rfl) (by rfl) rfl (tk_one _) s2 rfl ?_; rintro w3 s3; have l3 := lz.out (St.pick 4 s3); have l4 := run_loadG agg_tk (vs := x.cells) rfl s3.rowAll)
              | (go_at_call 55; refine fresh_c HC.out HR.out (s3.perm [2, 3]) ?_; rintro w4 s4; rw [HF.out]; have l5 := lk.out (St.pick 2 s4))
              | (go_at_call 91; refine stHas_c (OwnS.rd (St.pick 5 s4)) ?_; rw [HH.out]))
            go_roundw
            case rel => exact ⟨i + 1, ao, m, cc, by omega, by omega, rfl, by go_num, by rw [stay.out (by simp)]; exact (((s4.pick 2).drop).perm [2, 0, 1])⟩
            case measure => simp [intOf]; omega
          | false =>
            go_upto_region 6 with (first
              | (refine wpl_allocA (vs := [.int .i64 0, .int .i64 0, .string ByteArray.empty, .int .i64 0]) rfl rfl (fun _ => by kernel_rfl) sr ?_; rintro T w2 s2)
              | (refine wpl_storeA (vs := x.cells) rfl (.tmp 7) (.tmp 18) (by rfl) agg_tk (by rfl) (by rfl) rfl (tk_one _) s2 rfl ?_; rintro w3 s3; have l3 := lz.out (St.pick 4 s3); have l4 := run_loadG agg_tk (vs := x.cells) rfl s3.rowAll)
              | (go_at_call 55; refine fresh_c HC.out HR.out (s3.perm [2, 3]) ?_; rintro w4 s4; rw [HF.out]; have l5 := lk.out (St.pick 2 s4))
              | (go_at_call 91; refine stHas_c (OwnS.rd (St.pick 5 s4)) ?_; rw [HH.out]))
            try simp only [Act.put, List.setIfInBounds_toArray, List.set_cons_succ, List.set_cons_zero]
            go_cut [8] (fun pp wx => ∃ U, pp = .pointer (some ⟨U, 0, none⟩) ∧ St W wx (row U 0 e.cells :: RepA A r :: row b 0 (millC A.p c dp (some ⟨gb, go, none⟩) n cp) :: row T 0 x.cells :: OwnS 9 ao m cc (enC L0) :: OwnS 4 (some ⟨gb, go, none⟩) n cp (tkC l) :: OwnS 1 ab nb cb (stC ks) :: R))
            case first =>
              have u := s4.drew
              have gA := And.intro (FACT.out (St.pick 1 u)) (lk.out (St.pick 2 u))
              have u2 := (s4.alloc EnV.zero.cells.toArray 67).drew
              have gB := And.intro (FACT.out (St.pick 2 u2)) (lk.out (St.pick 3 u2))
              have gz := zero_en
              have hone : oneG e.cells 9 := ⟨rfl, env_one _⟩
              go_region_held3 (fun w' => (loadG 29 (.pointer (some ⟨b, 0, none⟩))).run Tryz.prog w' = .ok (.pointer (some ⟨A.p, 0, none⟩)) w' ∧ (loadG 9 (.pointer (some ⟨T, 2, none⟩))).run Tryz.prog w' = .ok (.string x.m.key) w')
                (first
                  | with_reducible exact gE
                  | with_reducible exact gD
                  | with_reducible exact gC
                  | with_reducible exact gB
                  | with_reducible exact gA)
                (first
                  | (go_at_call 15; first
                      | (refine entry_c HR.out u ?_; rintro w5 s5; rw [HE.out]; have gC := And.intro (FACT.out (St.pick 1 s5)) (lk.out (St.pick 2 s5)); have u5 := s5.alloc EnV.zero.cells.toArray 67; have gD := And.intro (FACT.out (St.pick 2 u5)) (lk.out (St.pick 3 u5)); have rB := run_storeG agg_en (b := w5.heap.size) (o := 0) (u5.roomG rfl) hone; have u6 := u5.setAll (vs := e.cells) rfl; have gE := And.intro (FACT.out (St.pick 2 u6)) (lk.out (St.pick 3 u6)))
                      | (refine entry_c HR.out (St.pick 1 u2) ?_; rintro w5 t5; rw [HE.out]; have s5 := St.pick 1 t5; have gC := And.intro (FACT.out (St.pick 2 s5)) (lk.out (St.pick 3 s5)); have rB := run_storeG agg_en (b := w4.heap.size) (o := 0) (s5.roomG rfl) hone; have u6 := s5.setAll (vs := e.cells) rfl; have gE := And.intro (FACT.out (St.pick 2 u6)) (lk.out (St.pick 3 u6)))))
              all_goals
                go_wp2_with fail
                go_meet
                case rel => exact ⟨_, rfl, u6⟩
            case rest =>
            obtain ⟨U, rfl, s6⟩ := hcut
            have l6 := run_loadG agg_en (vs := e.cells) rfl s6.rowAll
            have s7 := s6.alloc e.cells.toArray 67
            have r7 := St.rowRd (sz := 9) (n := 1) s7 rfl (by decide) (env_one e)
            have s8 := St.pick 5 s7
            go_wp2_with (at_builtin; refine wpl_append rfl (.tmp 51) (.tmp 53) rfl Tryz.elem54 rfl rfl s8 r7 hb1 hm1 ?_; rintro a9 c9 w9 s9)
            go_roundw
            case rel => exact ⟨i + 1, a9, m + 1, c9, by omega, by omega, rfl, by go_num, by rw [more.out rfl, show enC (L0 ++ [e]) = enC L0 ++ e.cells by simp [enC]]; exact ((((((s9.pick 1).drop).pick 1).drop).pick 3).drop).perm [0, 0, 1]⟩
            case measure => simp [intOf]; omega
    · have hie : i = n := by omega
      subst hie
      have HM : Hid (l.take i = l) := hid (List.take_of_length_le (by rw [HL.out]; exact Nat.le_refl _))
      rw [HM.out] at sr
      go_wp2_with fail
      exact HK.out _ _ _ _ sr
end
end
end Go.Proofs.YtojfjbbggpfijaaGreatDoor

/- A mill: merge: entries come in. Printed by mkRumU.py. -/
namespace Go.Proofs.YtojfjbbggpfijaaGreatDoor
open Go.RowKit Go.Qd RepV

section
attribute [local go_sem ↓] execOp_ldAny execOp_bsMk execOp_bsEn execOp_stEnR
attribute [local go_sem] run_bsMk run_bsEn
variable {W w : World} {R : List HP} {post : Ending → World → Prop} {c : List Int} {b dp : Nat} {A : RAd}
theorem mkC_more (l : List MkV) (x : MkV) : mkC (l ++ [x]) = mkC l ++ x.cells := by simp [mkC]
theorem enC_more (l : List EnV) (x : EnV) : enC (l ++ [x]) = enC l ++ x.cells := by simp [enC]
set_option maxRecDepth 100000 in
set_option maxHeartbeats 16000000 in
/-- Entries come in: what is new, and what was known. -/
theorem mmerge_c {a ea : Option Addr} {n cp en eq : Nat} {es : List EnV} {s0 : MilV} (hc : c.length = 20) (h14 : 1 ≤ c.getD 14 0 ∧ c.getD 14 0 ≤ 4000) (h15 : 1 ≤ c.getD 15 0)
    (h0 : MilI (c.getD 14 0) (c.getD 15 0) s0) (hn0 : s0.news = [] ∧ s0.known = []) (hen : en ≤ 4096) (hE : Rds W R 9 ea en eq (enC es))
    (st : St W w (OwnS 4 a n cp (tkC s0.l) :: row b 0 (millC A.p c dp a n cp) :: RepA A s0.r :: R))
    (K : ∀ F na nn nc ka kn kc a' n' cp' w', F = mmL (c.getD 14 0) s0 es → St W w' (OwnS 9 na nn nc (enC F.news) :: OwnS 3 ka kn kc (mkC F.known) :: OwnS 4 a' n' cp' (tkC F.l) :: row b 0 (millC A.p c dp a' n' cp') :: RepA A F.r :: R) →
      post (.returned (.tuple #[.slice na nn nc, .slice ka kn kc, .int .i64 0])) w') :
    Calls Tryz.prog 41 #[.pointer (some ⟨b, 0, none⟩), .slice ea en eq] w post := by
  have HK := hid K; clear K
  have HC := hid hc; have HE := hid hE; have H14 := hid h14
  have HL : Hid (es.length = en) := hid (enC_ln (hE w (st.dropN 3)))
  have HALL : Hid (∀ i, MilI (c.getD 14 0) (c.getD 15 0) (mmL (c.getD 14 0) s0 (es.take i))) := hid (fun i => h0.all h14.1 h15 _)
  have FACT : Hid (∀ {w' : World} {R' : List HP} {a : Option Addr} {n cp : Nat}, St W w' (row b 0 (millC A.p c dp a n cp) :: R') → (loadG 29 (.pointer (some ⟨b, 0, none⟩))).run Tryz.prog w' = .ok (.pointer (some ⟨A.p, 0, none⟩)) w') := hid (fun s => run_ldP (by kernel_rfl) (mill_at HC.out s).1)
  have FACU : Hid (∀ {w' : World} {R' : List HP} {T : Nat} {x : EnV}, St W w' (row T 0 x.cells :: R') → (loadG 67 (.pointer (some ⟨T, 0, none⟩))).run Tryz.prog w' = .ok (.agg x.cells.toArray) w') := hid (fun s => run_loadG agg_en rfl s.rowAll)
  have HS0 : Hid (mmL (c.getD 14 0) s0 (es.take 0) = s0) := hid rfl
  obtain ⟨n1, n2⟩ := hn0
  have st0 : St W w (OwnS 9 none 0 0 (enC s0.news) :: OwnS 3 none 0 0 (mkC s0.known) :: OwnS 4 a n cp (tkC s0.l) :: row b 0 (millC A.p c dp a n cp) :: RepA A s0.r :: R) := by
    rw [n1, n2]; exact OwnS.none0 (OwnS.none0 st)
  clear hc hE h14 h15 h0 st n1 n2
  go_enter Tryz.func41, Tryz.ntmps41
  go_wp2_with fail
  go_loopw [4, 5, 14] (fun oo kk ii wr => ∃ (i : Nat) (F : MilV) (na ka a1 : Option Addr) (nn nc kn kc n1 c1 : Nat), i ≤ en ∧ nn ≤ i ∧ kn ≤ i ∧ oo = .slice na nn nc ∧ kk = .slice ka kn kc ∧ ii = .int .i64 i ∧ Hid (mmL (c.getD 14 0) s0 (es.take i) = F) ∧
    St W wr (OwnS 9 na nn nc (enC F.news) :: OwnS 3 ka kn kc (mkC F.known) :: OwnS 4 a1 n1 c1 (tkC F.l) :: row b 0 (millC A.p c dp a1 n1 c1) :: RepA A F.r :: R)) (fun _ _ ii _ => en - (intOf ii).toNat)
  case atStart => exact ⟨0, s0, none, none, a, 0, 0, 0, 0, n, cp, Nat.zero_le _, Nat.le_refl _, Nat.le_refl _, rfl, rfl, rfl, HS0, st0⟩
  case round =>
    obtain ⟨i, F, na, ka, a1, nn, nc, kn, kc, n1, c1, hi, hnn, hkn, rfl, rfl, rfl, HF, sr⟩ := hrel
    by_cases hlt : i < en
    · have hi2 : (i : Int) < (en : Int) := by omega
      have hiL : i < es.length := by rw [HL.out]; exact hlt
      have rd := HE.out _ (sr.dropN 5)
      have hI := HALL.out i
      rw [HF.out] at hI
      have hst := mmL_take (H := c.getD 14 0) (s := s0) hiL
      rw [HF.out] at hst
      obtain ⟨gb, go, rfl⟩ := rd.addr (by omega)
      have l0 := run_loadG agg_en (b := gb) (o := go + i * 9) (vs := es[i].cells) rfl (fun _ _ hu => rd.at2 (enC_get hiL hu))
      obtain ⟨e, he⟩ : ∃ e, es[i] = e := ⟨_, rfl⟩
      rw [he] at l0 hst
      have HSTEP := hid hst
      have hln : F.l.length = n1 := tkC_ln (OwnS.rd (St.pick 2 sr))
      have hn4 : n1 ≤ 4000 := by have := hI.hot.len; have := H14.out.2; omega
      have HN4 := hid hn4
      have HI := hid hI
      obtain ⟨kc2, hcode⟩ : ∃ z, F.r.mergeW e = z := ⟨_, rfl⟩
      have d0 : (kc2 == 11) = false := by have := (RepV.merge_calm hI.calm e).2; rw [hcode] at this; simpa using this
      obtain ⟨r2, hr2⟩ : ∃ z, F.r.merge e = z := ⟨_, rfl⟩
      obtain ⟨x, hx⟩ : ∃ z, F.r.mergeX e = z := ⟨_, rfl⟩
      obtain ⟨k, hk⟩ : ∃ z, F.r.mergeK e = z := ⟨_, rfl⟩
      have HCODE := hid hcode; have HR2 := hid hr2; have HX := hid hx; have HKK := hid hk
      have hb1 : (nn + 1) * 88 ≤ 140737488355328 := by omega
      have hm1 : nn + 1 ≤ maxLen := by unfold maxLen; omega
      have hb2 : (kn + 1) * 32 ≤ 140737488355328 := by omega
      have hm2 : kn + 1 ≤ maxLen := by unfold maxLen; omega
      clear he hst hiL rd hI hln hn4 hcode hr2 hx hk
      obtain ⟨F1, F2, F3, F4⟩ := F
      dsimp only at sr HR2 HX HKK HCODE
      have s2 := sr.alloc EnV.zero.cells.toArray 67
      have gz := zero_en
      have hone : oneG e.cells 9 := ⟨rfl, env_one _⟩
      have rS := run_storeG agg_en (b := wr.heap.size) (o := 0) (s2.roomG rfl) hone
      have s3 := s2.setAll (vs := e.cells) rfl
      go_upto_region 4 with (fail)
      try simp only [Act.put, List.setIfInBounds_toArray, List.set_cons_succ, List.set_cons_zero]
      generalize (wr.alloc (.cells EnV.zero.cells.toArray 67)).setCells wr.heap.size 0 e.cells = w3 at s3 ⊢
      obtain ⟨T, hT⟩ : ∃ T, wr.heap.size = T := ⟨_, rfl⟩
      rw [hT] at s3 ⊢
      clear s2 rS gz hT
      go_cut [9, 10, 11] (fun kk xx cc wx => ∃ X, kk = .int .i64 k ∧ xx = .pointer (some ⟨X, 0, none⟩) ∧ cc = .int .i64 kc2 ∧ St W wx (row X 0 x.cells :: RepA A r2 :: row b 0 (millC A.p c dp a1 n1 c1) :: row T 0 e.cells :: OwnS 9 na nn nc (enC F3) :: OwnS 3 ka kn kc (mkC F4) :: OwnS 4 a1 n1 c1 (tkC F2) :: R))
      case first =>
        have gz := zero_en
        have u := s3.drew
        have gA := And.intro (FACT.out (St.pick 4 u)) (FACU.out u)
        have u2 := (s3.alloc EnV.zero.cells.toArray 67).drew
        have gB := And.intro (FACT.out (St.pick 5 u2)) (FACU.out (St.pick 1 u2))
        have honx : oneG x.cells 9 := ⟨rfl, env_one _⟩
        go_region_held3 (fun w' => (loadG 29 (.pointer (some ⟨b, 0, none⟩))).run Tryz.prog w' = .ok (.pointer (some ⟨A.p, 0, none⟩)) w' ∧ (loadG 67 (.pointer (some ⟨T, 0, none⟩))).run Tryz.prog w' = .ok (.agg e.cells.toArray) w')
          (first
            | with_reducible exact gE
            | with_reducible exact gD
            | with_reducible exact gC
            | with_reducible exact gB
            | with_reducible exact gA)
          (first
            | (go_at_call 90; first
                | (refine merge_c HI.out.ok (St.pick 5 u) ?_; rintro w5 t5; rw [HR2.out] at t5; rw [HKK.out, HX.out, HCODE.out]; have s5 : St W w5 (row b 0 (millC A.p c dp a1 n1 c1) :: row T 0 e.cells :: RepA A r2 :: OwnS 9 na nn nc (enC F3) :: OwnS 3 ka kn kc (mkC F4) :: OwnS 4 a1 n1 c1 (tkC F2) :: R) := t5.perm [5, 1]; have gC := And.intro (FACT.out s5) (FACU.out (St.pick 1 s5)); have u5 := s5.alloc EnV.zero.cells.toArray 67; have gD := And.intro (FACT.out (St.pick 1 u5)) (FACU.out (St.pick 2 u5)); have rB := run_storeG agg_en (b := w5.heap.size) (o := 0) (u5.roomG rfl) honx; have u6 := u5.setAll (vs := x.cells) rfl; have gE := And.intro (FACT.out (St.pick 1 u6)) (FACU.out (St.pick 2 u6)); have u7 := u6.perm [0, 2, 0, 0])
                | (refine merge_c HI.out.ok (St.pick 6 u2) ?_; rintro w5 t5; rw [HR2.out] at t5; rw [HKK.out, HX.out, HCODE.out]; have s5 := t5.perm [1, 5, 1]; have gC := And.intro (FACT.out (St.pick 1 s5)) (FACU.out (St.pick 2 s5)); have rB := run_storeG agg_en (o := 0) (s5.roomG rfl) honx; have u6 := s5.setAll (vs := x.cells) rfl; have gE := And.intro (FACT.out (St.pick 1 u6)) (FACU.out (St.pick 2 u6)); have u7 := u6.perm [0, 2, 0, 0])))
        all_goals
          go_wp2_with fail
          go_meet
          case rel => exact ⟨_, rfl, rfl, rfl, u7⟩
      case rest =>
      obtain ⟨X, rfl, rfl, rfl, s7⟩ := hcut
      have lX := FACU.out s7
      have lE := FACU.out (St.pick 3 s7)
      by_cases k0 : k = 0
      · subst k0
        have d1 : ((0 : Int) != 1) = true := rfl
        have d2 : ((0 : Int) != 0) = false := rfl
        have HSP : Hid (mmL (c.getD 14 0) s0 (es.take (i + 1)) = ⟨r2, F2, F3, F4 ++ [e.mark]⟩) := hid (by rw [HSTEP.out]; unfold mmStep; dsimp only; rw [HR2.out, HX.out, HKK.out]; rfl)
        go_wp2_with (first
          | (go_at_call 53; refine emark_c s7 ?_; rintro w8 s8; clear lX; have lX := FACU.out s8; have sk := s8.alloc e.mark.cells.toArray 59; have rk := St.rowRd (sz := 3) (n := 1) sk rfl (by decide) (mk_one e.mark); have sj := St.pick 6 sk)
          | (at_builtin; refine wpl_append rfl (.tmp 33) (.tmp 36) rfl Tryz.elem60 rfl rfl sj rk hb2 hm2 ?_; rintro ak ck w9 s9; rw [← mkC_more] at s9; clear lX; have lX := FACU.out (St.pick 2 s9)))
        go_roundw
        case rel => exact ⟨i + 1, ⟨r2, F2, F3, F4 ++ [e.mark]⟩, _, _, _, _, _, _, _, _, _, by omega, by omega, by omega, rfl, rfl, by go_num, HSP, ((s9.perm [1, 1, 3]).dropN 3).perm [3, 0, 2, 1]⟩
        case measure => simp [intOf]; omega
      · by_cases k1 : k = 1
        · subst k1
          have d1 : ((1 : Int) != 1) = false := rfl
          have d2 : ((1 : Int) != 0) = true := rfl
          have HSP : Hid (mmL (c.getD 14 0) s0 (es.take (i + 1)) = ⟨r2, heatL (c.getD 14 0) F2 x, F3 ++ [x], F4⟩) := hid (by rw [HSTEP.out]; unfold mmStep; dsimp only; rw [HR2.out, HX.out, HKK.out]; rfl)
          go_wp2_with (first
          | (go_at_call 19; refine heat_c HC.out HN4.out (s7.perm [6, 2]) ?_; rintro a4 n4 c4 w10 hn4 s10; have HN44 := hid hn4; clear hn4 lX; have lX := FACU.out (St.pick 2 s10); have sx := s10.alloc x.cells.toArray 67; have rx := St.rowRd (sz := 9) (n := 1) sx rfl (by decide) (env_one x); have sy := St.pick 6 sx)
          | (at_builtin; refine wpl_append rfl (.tmp 43) (.tmp 45) rfl Tryz.elem54 rfl rfl sy rx hb1 hm1 ?_; rintro ax cx w11 s11; rw [← enC_more] at s11))
          go_roundw
          case rel => exact ⟨i + 1, ⟨r2, heatL (c.getD 14 0) F2 x, F3 ++ [x], F4⟩, _, _, _, _, _, _, _, _, _, by omega, by omega, by omega, rfl, rfl, by go_num, HSP, ((s11.perm [1, 3, 4]).dropN 3).perm [0, 3, 0, 0]⟩
          case measure => simp [intOf]; omega
        · have d1 : (k != 1) = true := by simp [k1]
          have d2 : (k != 0) = true := by simp [k0]
          have E0 := hid k0; have E1 := hid k1
          clear k0 k1
          have HSP : Hid (mmL (c.getD 14 0) s0 (es.take (i + 1)) = ⟨r2, heatL (c.getD 14 0) F2 x, F3 ++ [x], F4 ++ [e.mark]⟩) := hid (by rw [HSTEP.out]; unfold mmStep; dsimp only; rw [HR2.out, HX.out, HKK.out]; rw [if_neg E0.out, if_neg E0.out, if_neg E1.out])
          go_wp2_with (first
          | (go_at_call 53; refine emark_c s7 ?_; rintro w8 s8; clear lX; have lX := FACU.out s8; have sk := s8.alloc e.mark.cells.toArray 59; have rk := St.rowRd (sz := 3) (n := 1) sk rfl (by decide) (mk_one e.mark); have sj := St.pick 6 sk)
          | (at_builtin; refine wpl_append rfl (.tmp 33) (.tmp 36) rfl Tryz.elem60 rfl rfl sj rk hb2 hm2 ?_; rintro ak ck w9 s9; rw [← mkC_more] at s9; clear lX; have lX := FACU.out (St.pick 2 s9))
          | (go_at_call 19; refine heat_c HC.out HN4.out (s9.perm [7, 4]) ?_; rintro a4 n4 c4 w10 hn4 s10; have HN44 := hid hn4; clear hn4 lX; have lX := FACU.out (St.pick 4 s10); have sx := s10.alloc x.cells.toArray 67; have rx := St.rowRd (sz := 9) (n := 1) sx rfl (by decide) (env_one x); have sy := St.pick 8 sx)
          | (at_builtin; refine wpl_append rfl (.tmp 43) (.tmp 45) rfl Tryz.elem54 rfl rfl sy rx hb1 hm1 ?_; rintro ax cx w11 s11; rw [← enC_more] at s11))
          go_roundw
          case rel => exact ⟨i + 1, ⟨r2, heatL (c.getD 14 0) F2 x, F3 ++ [x], F4 ++ [e.mark]⟩, _, _, _, _, _, _, _, _, _, by omega, by omega, by omega, rfl, rfl, by go_num, HSP, ((s11.perm [1, 4, 4, 5]).dropN 4).perm [0, 2, 0, 0]⟩
          case measure => simp [intOf]; omega
    · have hie : i = en := by omega
      subst hie
      have hF := HF.out
      rw [List.take_of_length_le (by rw [HL.out]; exact Nat.le_refl _)] at hF
      have HF2 := hid hF
      clear hF
      go_wp2_with fail
      go_ret3
      exact HK.out F _ _ _ _ _ _ _ _ _ _ HF2.out.symm sr
end
end Go.Proofs.YtojfjbbggpfijaaGreatDoor

/- A mill: whose numbers another node has; what may be a message at all. Printed by mkRumV.py. -/
namespace Go.Proofs.YtojfjbbggpfijaaGreatDoor
open Go.RowKit Go.Qd RepV

/-- Is a number another node's? -/
def nodeB (nn site p : Int) : Bool := decide (0 ≤ p) && (decide (p < nn) && (p != site))
/-- May a message be, whatever its kind? -/
def goodM (m : MsgV) (ks : List MkV) (es : List EnV) : Bool := decide (1 ≤ m.kind) && (decide (m.kind < 20) && goodX m m.kind.toNat ks es)
section
variable {W w : World} {R : List HP} {post : Ending → World → Prop} {c : List Int} {b dp : Nat} {A : RAd} {r : RepV}
set_option maxRecDepth 100000 in
set_option maxHeartbeats 4000000 in
theorem mnode_c {p : Int} {a : Option Addr} {n cp : Nat} (hc : c.length = 20) (st : St W w (row b 0 (millC A.p c dp a n cp) :: RepA A r :: R))
    (K : post (.returned (.bool (nodeB (c.getD 0 0) r.site p))) w) : Calls Tryz.prog 38 #[.pointer (some ⟨b, 0, none⟩), .int .i64 p] w post := by
  obtain ⟨nn, hn⟩ : ∃ n, c.getD 0 0 = n := ⟨_, rfl⟩
  obtain ⟨site, hsi⟩ : ∃ site, r.site = site := ⟨_, rfl⟩
  rw [hn, hsi] at K
  have k1 : w.cell? ⟨b, 1, none⟩ = some (.int .i64 nn) := by have := mill_cfg hc st (i := 0) (by decide); rw [hn] at this; exact this
  have k0 := (mill_at hc st).1
  obtain ⟨k2, s1⟩ := rep_clk (St.pick 1 st)
  rw [hsi] at s1
  unfold nodeB at K
  obtain ⟨t0, d0⟩ : ∃ t, decide (0 ≤ p) = t := ⟨_, rfl⟩
  obtain ⟨t1, d1⟩ : ∃ t, decide (p < nn) = t := ⟨_, rfl⟩
  obtain ⟨t2, d2⟩ : ∃ t, (p != site) = t := ⟨_, rfl⟩
  rw [d0, d1, d2] at K
  have HK := hid K; clear K
  clear hn hsi
  cases t0 with
  | false =>
    go_enter Tryz.func38, Tryz.ntmps38
    go_wp2_with fail
    exact HK.out
  | true =>
    cases t1 with
    | false =>
      go_enter Tryz.func38, Tryz.ntmps38
      go_wp2_with fail
      exact HK.out
    | true =>
      cases t2 with
      | false =>
        go_enter Tryz.func38, Tryz.ntmps38
        go_wp2_with (go_at_call 36; refine site_c s1 ?_)
        exact HK.out
      | true =>
        go_enter Tryz.func38, Tryz.ntmps38
        go_wp2_with (go_at_call 36; refine site_c s1 ?_)
        exact HK.out

section
set_option maxRecDepth 100000 in
set_option maxHeartbeats 4000000 in
theorem good_no {m : MsgV} (h : ¬ (1 ≤ m.kind ∧ m.kind < 20)) (st : St W w R) (K : ∀ w', St W w' R → post (.returned (.int .i64 1)) w') : Calls Tryz.prog 39 #[.agg m.cells.toArray] w post := by
  have HK := hid K; clear K
  have HH := hid h; clear h
  go_enter Tryz.func39, Tryz.ntmps39
  go_wp2_with (first
    | (replace st := hid st; refine wpl_boxA (vs := m.cells) rfl (.tmp 0) rfl rfl st.out ?_; rintro T w1 s1; obtain ⟨g0, _⟩ := boxM s1; clear st)
    | (go_at_call 78; refine formOf_no s1 HH.out ?_; rintro w2 s2; clear s1)
    | (replace s2 := hid s2; refine wpl_allocA rfl rfl zero195 s2.out ?_; rintro F w3 s3; clear s2)
    | (replace s3 := hid s3; refine wpl_storeA (vs := noForm) rfl (.tmp 3) (.tmp 9) (by rfl) agg195 (by rfl) (by rfl) rfl noForm_one s3.out (by simp) ?_; rintro w4 s4; clear s3))
  exact HK.out _ (s4.dropN 2)
end
/-- wire.Good of whatever message. -/
theorem good_c {m : MsgV} {ks : List MkV} {es : List EnV} (hp : Rds W R 1 m.pa m.pn m.pc (ivs m.ps)) (hn : m.pn ≤ 4096) (hpM : Rds W R 3 m.ma m.mn m.mq (mkC ks)) (hnM : m.mn ≤ 4096)
    (hpE : Rds W R 9 m.ea m.en m.eq (enC es)) (hnE : m.en ≤ 4096) (st : St W w R)
    (K : ∀ (z : Int) w', (z != 0) = !goodM m ks es → St W w' R → post (.returned (.int .i64 z)) w') : Calls Tryz.prog 39 #[.agg m.cells.toArray] w post := by
  by_cases h : 1 ≤ m.kind ∧ m.kind < 20
  · have hk : m.kind = ((m.kind.toNat : Nat) : Int) := by omega
    refine goodx_c (by omega) (by omega) hk hp hn hpM hnM hpE hnE st (fun w' s => K _ w' ?_ s)
    unfold goodM
    rw [decide_eq_true h.1, decide_eq_true h.2, Bool.true_and, Bool.true_and]
    cases goodX m m.kind.toNat ks es <;> rfl
  · refine good_no h st (fun w' s => K _ w' ?_ s)
    unfold goodM
    by_cases h1 : 1 ≤ m.kind
    · rw [decide_eq_false (fun h2 => h ⟨h1, h2⟩)]; simp
    · rw [decide_eq_false h1]; simp
end
end Go.Proofs.YtojfjbbggpfijaaGreatDoor

/- wire.Good does not ask where a message's marks and entries lie. -/
namespace Go.Proofs.YtojfjbbggpfijaaGreatDoor
open Go.RowKit Go.Qd
section
variable {m : MsgV} {a a' : Option Addr} {n c n' c' : Nat}
theorem clearM_with : ∀ i, clearM i ((m.withM a n c).withE a' n' c') = ((clearM i m).withM a n c).withE a' n' c'
  | 0 => rfl
  | 1 => rfl
  | 2 => rfl
  | 3 => rfl
  | 4 => rfl
  | 5 => rfl
  | 6 => rfl
  | _ + 7 => rfl
theorem clearIf_with (b : Bool) (i : Nat) : clearIf b i ((m.withM a n c).withE a' n' c') = ((clearIf b i m).withM a n c).withE a' n' c' := by
  cases b
  · rfl
  · exact clearM_with i
theorem bareN_with (k : Nat) : ∀ j, bareN ((m.withM a n c).withE a' n' c') k j = ((bareN m k j).withM a n c).withE a' n' c'
  | 0 => rfl
  | j + 1 => by
    show clearIf (bitF k j) j (bareN ((m.withM a n c).withE a' n' c') k j) = _
    rw [bareN_with k j, clearIf_with]
    rfl
theorem bareM_with (k : Nat) : bareM ((m.withM a n c).withE a' n' c') k = bareM m k := by
  unfold bareM
  rw [bareN_with]
  rfl
theorem goodM_with (ks : List MkV) (es : List EnV) : goodM ((m.withM a n c).withE a' n' c') ks es = goodM m ks es := by
  show (decide (1 ≤ m.kind) && (decide (m.kind < 20) && goodX ((m.withM a n c).withE a' n' c') m.kind.toNat ks es)) = _
  unfold goodM goodX
  rw [bareM_with]
  rfl
end
end Go.Proofs.YtojfjbbggpfijaaGreatDoor
