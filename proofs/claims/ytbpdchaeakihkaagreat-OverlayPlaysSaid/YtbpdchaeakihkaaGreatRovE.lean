/- RovE: several texts, joined. law17.Is: an overlay tells what the document's has. -/
import Derived.Test.YtbpdchaeakihkaaGreatRovC
import Derived.Test.YtbpdchaeakihkaaGreatROI
import Derived.Test.YtbpdchaeakihkaaGreatKnownL
import Derived.Test.YtbpdchaeakihkaaGreatRovD
import Derived.Test.YtbpdchaeakihkaaGreatRGoodN
namespace Go.Proofs.YtbpdchaeakihkaaGreat
open Go.RowKit Go.Qd

theorem knownL_memB {V : VV} (p : Int) : memB (knownL V) p = (memB V.a p || memB V.p p) := by
  by_cases h1 : p ∈ V.a
  · rw [memB_yes (mem_knownL.2 (.inl h1)), memB_yes h1]; rfl
  · by_cases h2 : p ∈ V.p
    · rw [memB_yes (mem_knownL.2 (.inr h2)), memB_yes h2]; simp
    · rw [memB_no (fun g => (mem_knownL.1 g).elim h1 h2), memB_no h1, memB_no h2]; rfl
section
variable {W w : World} {R : List HP} {post : Ending → World → Prop} {x : RO} {O : OV} {b d : Nat}
theorem isS {v B : Nat} {t : TypeId} (ht : t = 83) {V : VV} (h : x.ok) (hV : x.o.V = V) (s : St W w (row b 0 [.pointer (some ⟨v, 0, none⟩)] :: row B 0 x.cells :: R)) :
    (loadG 41 (.pointer (some ⟨b, 0, none⟩))).run Tryz.prog w = .ok (.pointer (some ⟨v, 0, none⟩)) w ∧ (loadG t (.pointer (some ⟨B, 21, none⟩))).run Tryz.prog w = .ok (.agg (bits V.a).toArray) w ∧ (loadG t (.pointer (some ⟨B, 33, none⟩))).run Tryz.prog w = .ok (.agg (bits V.p).toArray) w ∧ (loadG 93 (.pointer (some ⟨B, 20, none⟩))).run Tryz.prog w = .ok (.agg (refCells V).toArray) w := by
  subst ht; subst hV
  exact ⟨run_ldP (by kernel_rfl) (row1c s), (roBits h (St.pick 1 s)).1, (roBits h (St.pick 1 s)).2, roLdV h (St.pick 1 s)⟩
attribute [local go_sem ↓] execOp_ldAny

set_option maxRecDepth 100000 in
set_option maxHeartbeats 16000000 in
theorem is_c (h : x.ok) (hV : x.o.V = O.V) (hA : x.o.asked = O.asked) (hv : VOK O.V) (ha : O.asked = -1 ∨ 0 ≤ O.asked) (st : St W w (OvA b d O :: R)) (K : ∀ w', St W w' (OvA b d O :: R) → post (.returned (.bool true)) w') :
    Calls Tryz.prog 37 #[.pointer (some ⟨b, 0, none⟩), .agg x.cells.toArray] w post := by
  have HK := hid K; clear K
  have HH := hid h; have HV := hid hV; have HVK := hid hv
  obtain ⟨aq, haq⟩ : ∃ a, O.asked = a := ⟨_, rfl⟩
  rw [haq] at ha hA
  have HXA := hid hA
  have hn1 := hv.na4; have hn2 := hv.np4
  have HLN : Hid (O.V.a.length ≤ 4096 ∧ O.V.p.length ≤ 4096) := hid ⟨by omega, by omega⟩
  have HAS : Hid (O.V.a.Pairwise (· < ·) ∧ ∀ q ∈ O.V.a, nodeB q = true) := hid ⟨hv.sa, fun q hq => (hv.na q hq).1⟩
  have HPS : Hid (O.V.p.Pairwise (· < ·) ∧ ∀ q ∈ O.V.p, nodeB q = true) := hid ⟨hv.sp, fun q hq => (hv.np q hq).1⟩
  have HKS : Hid ((knownL O.V).Pairwise (· < ·) ∧ (∀ q ∈ knownL O.V, nodeB q = true) ∧ ∀ p : Nat, p < 12 → memB (knownL O.V) (p : Int) = (memB O.V.a (p : Int) || memB O.V.p (p : Int))) := hid ⟨knownL_sorted hv, fun q hq => (knownL_told hv hq).1, fun p _ => knownL_memB _⟩
  have HAQ := hid haq
  have e1 : aq ≠ -1 → decide (0 ≤ aq) = true := fun g => by simp; omega
  have hq : aq = -1 ∨ (aq ≠ -1 ∧ 0 ≤ aq) := by rcases ha with g | g <;> omega
  clear h hV hA hv ha haq hn1 hn2 e1
  rcases hq with hq | hq
  · subst hq
    go_enter Tryz.func37, Tryz.ntmps37
    go_wp2_with (first
      | (refine wpl_boxA (vs := x.cells) rfl (.tmp 1) rfl rfl st ?_; rintro B w1 s1
         have c61 := run_ldP (t := 3) (by kernel_rfl) (roC HH.out s1).2.2.2.2.1
         rw [HXA.out] at c61)
      | (go_at_call 20; refine asked_c (St.pick 1 s1) ?_; rw [HAQ.out]; simp only [show decide ((-1 : Int) ≠ -1) = false from rfl]))
    obtain ⟨v, s2⟩ := OvA.open (St.pick 1 s1)
    have s3 : St W _ (row b 0 [.pointer (some ⟨v, 0, none⟩)] :: row B 0 x.cells :: ViewsA v O.V :: NewsA b 1 O.L O.C :: row b 3 (ivs O.cfg) :: row b 23 [.pointer (some ⟨d, 0, none⟩)] :: row b 24 (ivs O.heard) :: row b 36 [.int .i64 O.ticks, .int .i64 O.asked, .int .i64 O.since] :: DiceA d O.D :: R) := s2.perm [0, 7, 5]
    have u := s3.drew
    obtain ⟨t, ht⟩ : ∃ t : TypeId, t = 83 := ⟨83, rfl⟩
    have e83 : ∀ x, Op.load 83 x = Op.load t x := fun x => by rw [ht]
    simp only [e83]
    have HT := hid ht; clear e83 ht
    have gA := isS HT.out HH.out HV.out u
    clear c61
    go_region_held3 (fun w' => (loadG 41 (.pointer (some ⟨b, 0, none⟩))).run Tryz.prog w' = .ok (.pointer (some ⟨v, 0, none⟩)) w' ∧ (loadG t (.pointer (some ⟨B, 21, none⟩))).run Tryz.prog w' = .ok (.agg (bits O.V.a).toArray) w' ∧ (loadG t (.pointer (some ⟨B, 33, none⟩))).run Tryz.prog w' = .ok (.agg (bits O.V.p).toArray) w' ∧ (loadG 93 (.pointer (some ⟨B, 20, none⟩))).run Tryz.prog w' = .ok (.agg (refCells O.V).toArray) w')
      (first
        | with_reducible exact g9
        | with_reducible exact g8
        | with_reducible exact g7
        | with_reducible exact g6
        | with_reducible exact g5
        | with_reducible exact g4
        | with_reducible exact g3
        | with_reducible exact g2
        | with_reducible exact g1
        | with_reducible exact gA)
      (first
        | (go_at_call 16; refine active_c (St.pick 2 u) HLN.out.1 ?_; rintro a1 c1 w1 y1; have g1 := isS HT.out HH.out HV.out (y1.perm [2, 2]))
        | (go_at_call 29; first
            | (with_reducible refine list_c (l := O.V.p) y4 HPS.out.1 HPS.out.2 ?_; rintro a5 c5 w5 y5; have g5 := isS HT.out HH.out HV.out (y5.perm [3, 3]))
            | (with_reducible refine list_c (l := O.V.a) y1 HAS.out.1 HAS.out.2 ?_; rintro a2 c2 w2 y2; have g2 := isS HT.out HH.out HV.out (y2.perm [3, 3])))
        | (go_at_call 26; first
            | (refine same_c (xs := knownL O.V) (ys := knownL O.V) (OwnS.rd (St.pick 1 y8)) (OwnS.rd y8) ?_; intro k9; rw [decide_eq_true rfl]; have y9 := (y8.drewN k9).dropN 2; generalize w8.drewN k9 = w9 at y9 ⊢; have g9 := isS HT.out HH.out HV.out (y9.perm [1, 1]))
            | (refine same_c (xs := O.V.p) (ys := O.V.p) (OwnS.rd (St.pick 1 y5)) (OwnS.rd y5) ?_; intro k6; rw [decide_eq_true rfl]; have y6 := (y5.drewN k6).dropN 2; generalize w5.drewN k6 = w6 at y6 ⊢; have g6 := isS HT.out HH.out HV.out (y6.perm [1, 1]))
            | (refine same_c (xs := O.V.a) (ys := O.V.a) (OwnS.rd (St.pick 1 y2)) (OwnS.rd y2) ?_; intro k3; rw [decide_eq_true rfl]; have y3 := (y2.drewN k3).dropN 2; generalize w2.drewN k3 = w3 at y3 ⊢; have g3 := isS HT.out HH.out HV.out (y3.perm [1, 1])))
        | (go_at_call 21; refine passive_c y3 HLN.out.2 ?_; rintro a4 c4 w4 y4; have g4 := isS HT.out HH.out HV.out (y4.perm [2, 2]))
        | (go_at_call 30; refine knownL_known y6 HVK.out ?_; rintro ak ck w7 y7; have g7 := isS HT.out HH.out HV.out (y7.perm [2, 2]))
        | (go_at_call 77; refine rknown_c (V := O.V) (L := knownL O.V) y7 HKS.out.1 HKS.out.2.1 HKS.out.2.2 ?_; rintro ar cr w8 y8; have g8 := isS HT.out HH.out HV.out (y8.perm [3, 3])))
    all_goals
      go_wp2_with fail
      exact HK.out _ (St.drop (St.pick 1 (OvA.close (O := O) (v := v) (y9.perm [1, 2, 2, 2, 2, 2, 0, 1]))))
  · obtain ⟨hq, hge⟩ := hq
    go_enter Tryz.func37, Tryz.ntmps37
    go_wp2_with (first
      | (refine wpl_boxA (vs := x.cells) rfl (.tmp 1) rfl rfl st ?_; rintro B w1 s1
         have c61 := run_ldP (t := 3) (by kernel_rfl) (roC HH.out s1).2.2.2.2.1
         rw [HXA.out] at c61)
      | (go_at_call 20; refine asked_c (St.pick 1 s1) ?_; rw [HAQ.out]; simp only [if_neg hq, show decide (aq ≠ -1) = true from decide_eq_true hq]))
    obtain ⟨v, s2⟩ := OvA.open (St.pick 1 s1)
    have s3 : St W _ (row b 0 [.pointer (some ⟨v, 0, none⟩)] :: row B 0 x.cells :: ViewsA v O.V :: NewsA b 1 O.L O.C :: row b 3 (ivs O.cfg) :: row b 23 [.pointer (some ⟨d, 0, none⟩)] :: row b 24 (ivs O.heard) :: row b 36 [.int .i64 O.ticks, .int .i64 O.asked, .int .i64 O.since] :: DiceA d O.D :: R) := s2.perm [0, 7, 5]
    have u := s3.drew
    obtain ⟨t, ht⟩ : ∃ t : TypeId, t = 83 := ⟨83, rfl⟩
    have e83 : ∀ x, Op.load 83 x = Op.load t x := fun x => by rw [ht]
    simp only [e83]
    have HT := hid ht; clear e83 ht
    have gA := isS HT.out HH.out HV.out u
    clear c61
    go_region_held3 (fun w' => (loadG 41 (.pointer (some ⟨b, 0, none⟩))).run Tryz.prog w' = .ok (.pointer (some ⟨v, 0, none⟩)) w' ∧ (loadG t (.pointer (some ⟨B, 21, none⟩))).run Tryz.prog w' = .ok (.agg (bits O.V.a).toArray) w' ∧ (loadG t (.pointer (some ⟨B, 33, none⟩))).run Tryz.prog w' = .ok (.agg (bits O.V.p).toArray) w' ∧ (loadG 93 (.pointer (some ⟨B, 20, none⟩))).run Tryz.prog w' = .ok (.agg (refCells O.V).toArray) w')
      (first
        | with_reducible exact g9
        | with_reducible exact g8
        | with_reducible exact g7
        | with_reducible exact g6
        | with_reducible exact g5
        | with_reducible exact g4
        | with_reducible exact g3
        | with_reducible exact g2
        | with_reducible exact g1
        | with_reducible exact gA)
      (first
        | (go_at_call 16; refine active_c (St.pick 2 u) HLN.out.1 ?_; rintro a1 c1 w1 y1; have g1 := isS HT.out HH.out HV.out (y1.perm [2, 2]))
        | (go_at_call 29; first
            | (with_reducible refine list_c (l := O.V.p) y4 HPS.out.1 HPS.out.2 ?_; rintro a5 c5 w5 y5; have g5 := isS HT.out HH.out HV.out (y5.perm [3, 3]))
            | (with_reducible refine list_c (l := O.V.a) y1 HAS.out.1 HAS.out.2 ?_; rintro a2 c2 w2 y2; have g2 := isS HT.out HH.out HV.out (y2.perm [3, 3])))
        | (go_at_call 26; first
            | (refine same_c (xs := knownL O.V) (ys := knownL O.V) (OwnS.rd (St.pick 1 y8)) (OwnS.rd y8) ?_; intro k9; rw [decide_eq_true rfl]; have y9 := (y8.drewN k9).dropN 2; generalize w8.drewN k9 = w9 at y9 ⊢; have g9 := isS HT.out HH.out HV.out (y9.perm [1, 1]))
            | (refine same_c (xs := O.V.p) (ys := O.V.p) (OwnS.rd (St.pick 1 y5)) (OwnS.rd y5) ?_; intro k6; rw [decide_eq_true rfl]; have y6 := (y5.drewN k6).dropN 2; generalize w5.drewN k6 = w6 at y6 ⊢; have g6 := isS HT.out HH.out HV.out (y6.perm [1, 1]))
            | (refine same_c (xs := O.V.a) (ys := O.V.a) (OwnS.rd (St.pick 1 y2)) (OwnS.rd y2) ?_; intro k3; rw [decide_eq_true rfl]; have y3 := (y2.drewN k3).dropN 2; generalize w2.drewN k3 = w3 at y3 ⊢; have g3 := isS HT.out HH.out HV.out (y3.perm [1, 1])))
        | (go_at_call 21; refine passive_c y3 HLN.out.2 ?_; rintro a4 c4 w4 y4; have g4 := isS HT.out HH.out HV.out (y4.perm [2, 2]))
        | (go_at_call 30; refine knownL_known y6 HVK.out ?_; rintro ak ck w7 y7; have g7 := isS HT.out HH.out HV.out (y7.perm [2, 2]))
        | (go_at_call 77; refine rknown_c (V := O.V) (L := knownL O.V) y7 HKS.out.1 HKS.out.2.1 HKS.out.2.2 ?_; rintro ar cr w8 y8; have g8 := isS HT.out HH.out HV.out (y8.perm [3, 3])))
    all_goals
      go_wp2_with fail
      exact HK.out _ (St.drop (St.pick 1 (OvA.close (O := O) (v := v) (y9.perm [1, 2, 2, 2, 2, 2, 0, 1]))))
end

end Go.Proofs.YtbpdchaeakihkaaGreat

/- The program's act and the document's from one overlay: the same but for where lists lie. -/
namespace Go.Proofs.YtbpdchaeakihkaaGreat
open Go.RowKit Go.Qd

/-! Addresses are struck out. -/
def stripM (m : MsgV) : MsgV := { m with pa := none, pn := 0, pc := 0, ma := none, mq := 0, ea := none, eq := 0 }
def stripL (L : List LetV) : List LetV := L.map fun x => ⟨x.to, stripM x.m⟩
def stripO (O : OV) : OV := { O with L := stripL O.L }
theorem stripL_app (L M : List LetV) : stripL (L ++ M) = stripL L ++ stripL M := by unfold stripL; rw [List.map_append]
theorem strip_put {O : OV} {V : VV} {D : List Int} {x y : LetV} (h : x.to = y.to) (g : stripM x.m = stripM y.m) : stripO { O with V := V, D := D, L := O.L ++ [x] } = stripO { O with V := V, D := D, L := O.L ++ [y] } := by
  unfold stripO
  simp only [stripL_app]
  show ({ O with V := V, D := D, L := _ } : OV) = { O with V := V, D := D, L := _ }
  have : stripL [x] = stripL [y] := by unfold stripL; simp only [List.map_cons, List.map_nil, h, g]
  rw [this]
theorem strip_learn (O : OV) (p : Int) : stripO (learnO O p) = learnO (stripO O) p := rfl
theorem strip_learnAll (l : List Int) : ∀ O : OV, stripO (learnAllO O l) = learnAllO (stripO O) l := by
  induction l with
  | nil => intro O; rfl
  | cons a l ih => intro O; exact ih (learnO O a)

/-! May a message be: the program's answer and the document's. -/
theorem clear_f (b : Bool) (i : Nat) (m : MsgV) : (clearIf b i m).kind = m.kind ∧ (clearIf b i m).peer = (if b = true ∧ i = 0 then 0 else m.peer) ∧ (clearIf b i m).hops = (if b = true ∧ i = 1 then 0 else m.hops) ∧ (clearIf b i m).high = (if b = true ∧ i = 2 then false else m.high) ∧
    (clearIf b i m).pn = (if b = true ∧ i = 3 then 0 else m.pn) ∧ (clearIf b i m).number = (if b = true ∧ i = 4 then 0 else m.number) ∧ (clearIf b i m).sum = (if b = true ∧ i = 5 then 0 else m.sum) ∧
    (clearIf b i m).mc = (if b = true ∧ i = 6 then 0 else m.mc) ∧ (clearIf b i m).ms = (if b = true ∧ i = 6 then 0 else m.ms) ∧ (clearIf b i m).key = (if b = true ∧ i = 6 then ByteArray.empty else m.key) := by
  cases b
  · unfold clearIf; simp
  · unfold clearIf
    match i with
    | 0 => simp [clearM]
    | 1 => simp [clearM]
    | 2 => simp [clearM]
    | 3 => simp [clearM]
    | 4 => simp [clearM]
    | 5 => simp [clearM]
    | 6 => simp [clearM]
    | n + 7 => simp [clearM]
theorem bare_f (m : MsgV) (k : Nat) : (bareM m k).kind = m.kind ∧ (bareM m k).peer = (if bitF k 0 = true then 0 else m.peer) ∧ (bareM m k).hops = (if bitF k 1 = true then 0 else m.hops) ∧ (bareM m k).high = (if bitF k 2 = true then false else m.high) ∧
    (bareM m k).pn = (if bitF k 3 = true then 0 else m.pn) ∧ (bareM m k).number = (if bitF k 4 = true then 0 else m.number) ∧ (bareM m k).sum = (if bitF k 5 = true then 0 else m.sum) ∧
    (bareM m k).mc = (if bitF k 6 = true then 0 else m.mc) ∧ (bareM m k).ms = (if bitF k 6 = true then 0 else m.ms) ∧ (bareM m k).key = (if bitF k 6 = true then ByteArray.empty else m.key) := by
  obtain ⟨b0, h0⟩ : ∃ b, bitF k 0 = b := ⟨_, rfl⟩
  obtain ⟨b1, h1⟩ : ∃ b, bitF k 1 = b := ⟨_, rfl⟩
  obtain ⟨b2, h2⟩ : ∃ b, bitF k 2 = b := ⟨_, rfl⟩
  obtain ⟨b3, h3⟩ : ∃ b, bitF k 3 = b := ⟨_, rfl⟩
  obtain ⟨b4, h4⟩ : ∃ b, bitF k 4 = b := ⟨_, rfl⟩
  obtain ⟨b5, h5⟩ : ∃ b, bitF k 5 = b := ⟨_, rfl⟩
  obtain ⟨b6, h6⟩ : ∃ b, bitF k 6 = b := ⟨_, rfl⟩
  have e : bareN m k 7 = clearIf b6 6 (clearIf b5 5 (clearIf b4 4 (clearIf b3 3 (clearIf b2 2 (clearIf b1 1 (clearIf b0 0 m)))))) := by simp only [bareN, h0, h1, h2, h3, h4, h5, h6]
  rw [h0, h1, h2, h3, h4, h5, h6]
  have f := fun b i m => clear_f b i m
  refine ⟨?_, ?_, ?_, ?_, ?_, ?_, ?_, ?_, ?_, ?_⟩ <;> simp [bareM, e, f]
theorem bit_has {k : Nat} (h1 : 1 ≤ k) (h9 : k ≤ 9) : (bitF k 1 = bitF k 0 ∧ bitF k 4 = false ∧ bitF k 5 = false ∧ bitF k 6 = false) ∧ hasB k 0 = bitF k 0 ∧ hasB k 2 = bitF k 2 ∧ hasB k 3 = bitF k 3 ∧ hasB k 4 = false ∧ hasB k 5 = false ∧ hasB k 6 = false := by
  rcases kinds9 h1 h9 with rfl | rfl | rfl | rfl | rfl | rfl | rfl | rfl | rfl <;> exact ⟨⟨by kernel_rfl, by kernel_rfl, by kernel_rfl, by kernel_rfl⟩, by kernel_rfl, by kernel_rfl, by kernel_rfl, by kernel_rfl, by kernel_rfl, by kernel_rfl⟩
theorem same_fld {m : MsgV} {k : Nat} (h1 : 1 ≤ k) (h9 : k ≤ 9) (hk : m.kind = k) : sameB (bareM m k) k = fldB m k := by
  obtain ⟨e0, e1, e2, e3, e4, e5, e6, e7, e8, e9⟩ := bare_f m k
  obtain ⟨⟨a1, a4, a5, a6⟩, b0, b2, b3, b4, b5, b6⟩ := bit_has h1 h9
  unfold fldB fldA fldC mzB sameB
  rw [e0, e1, e2, e3, e4, e5, e6, e7, e8, e9, a1, a4, a5, a6, b0, b2, b3, b4, b5, b6, hk]
  have z1 : ∀ x : Int, (x != 0) = !(x == 0) := fun _ => rfl
  have z2 : decide (0 < m.pn) = !decide (m.pn = 0) := by by_cases h : m.pn = 0 <;> simp [h]; omega
  have z3 : m.key.toList.isEmpty = decide (m.key.toList = []) := by cases m.key.toList <;> rfl
  rw [z1, z1, z2, z3]
  simp only [Bool.false_eq_true, if_false]
  have y1 : ∀ (b : Bool) (x : Int), ((if b = true then 0 else x) == 0) = (b || (x == 0)) := fun b x => by cases b <;> rfl
  have y2 : ∀ (b c : Bool), ((if b = true then false else c) == false) = (b || !c) := fun b c => by cases b <;> cases c <;> rfl
  have y3 : ∀ (b : Bool) (x : Nat), decide ((if b = true then 0 else x) = 0) = (b || decide (x = 0)) := fun b x => by cases b <;> simp
  rw [y1, y1, y2, y3, show ((k : Int) == (k : Int)) = true from by simp]
  cases bitF k 0 <;> cases bitF k 2 <;> cases bitF k 3 <;> cases (m.peer == 0) <;> cases (m.hops == 0) <;> cases m.high <;> cases decide (m.pn = 0) <;> simp
theorem wnode_site (n : Int) : wnodeB n = siteB n := rfl
theorem good_rgood {m : MsgV} {k : Nat} {ks : List MkV} {es : List EnV} (h1 : 1 ≤ k) (h9 : k ≤ 9) (hk : m.kind = k) (hm : ks.length = m.mn) (he : es.length = m.en) : goodB m k = rgoodB m k ks es := by
  unfold goodB rgoodB headB
  rw [same_fld h1 h9 hk, wnode_site]
  unfold allB psAny
  simp only [show ∀ x, wnodeB x = siteB x from wnode_site]
  have c : cntB m k = (decide (m.mn = 0) && (decide (m.en = 0) && decide (m.pn ≤ 8))) := by
    unfold cntB
    have l : loM k = 0 ∧ hiM k = 0 ∧ loE k = 0 ∧ hiE k = 0 := by rcases kinds9 h1 h9 with rfl | rfl | rfl | rfl | rfl | rfl | rfl | rfl | rfl <;> exact ⟨rfl, rfl, rfl, rfl⟩
    obtain ⟨l1, l2, l3, l4⟩ := l
    rw [l1, l2, l3, l4, Bool.eq_iff_iff]
    simp only [Bool.and_eq_true, decide_eq_true_eq]
    omega
  rw [c]
  by_cases hf : fldB m k = true
  · have hz : mzB m = true ∧ m.number = 0 := by
      have := hf
      unfold fldB fldC at this
      obtain ⟨_, b0, b2, b3, b4, b5, b6⟩ := bit_has h1 h9
      rw [b4, b5, b6] at this
      simp only [Bool.and_eq_true, Bool.false_or, beq_iff_eq] at this
      exact ⟨this.2.2.2, this.2.1⟩
    rw [hf, hz.1, hz.2]
    by_cases hm0 : m.mn = 0
    · by_cases he0 : m.en = 0
      · have k0 : ks = [] := List.eq_nil_of_length_eq_zero (by omega)
        have e0 : es = [] := List.eq_nil_of_length_eq_zero (by omega)
        subst k0 e0
        have z1 : (!decide (m.hops < 0)) = decide (0 ≤ m.hops) := by by_cases h : m.hops < 0 <;> simp [h] <;> omega
        have z2 : (!decide (8 < m.hops)) = decide (m.hops ≤ 8) := by by_cases h : 8 < m.hops <;> simp [h] <;> omega
        rw [z1, z2, hm0, he0]
        show _ = (_ && ((true || _) && (!_ && (!mkCAny [] && !enAny []))))
        rw [show mkCAny [] = false from rfl, show enAny [] = false from rfl]
        cases siteB m.peer <;> cases decide (0 ≤ m.hops) <;> cases decide (m.hops ≤ 8) <;> cases decide (m.pn ≤ 8) <;> cases (m.ps.any fun x => !siteB x) <;> rfl
      · simp [he0]
    · simp [hm0]
  · rw [Bool.not_eq_true] at hf
    rw [hf]; simp
theorem fits_rfits {O P : OV} {m : MsgV} {ks : List MkV} {es : List EnV} {ma ea : Option Addr} {mq eq : Nat} (hc : P.cfg = O.cfg) (hm : ks.length = m.mn) (he : es.length = m.en) : fitsAll O ((m.withM ma m.mn mq).withE ea m.en eq) = rfitsB P m ks es := by
  have ht : ∀ p, thereB P p = thereB O p := fun p => by unfold thereB; rw [hc]
  unfold fitsAll rfitsB rgoodK fitsB
  simp only [ht]
  show (decide (1 ≤ m.kind) && (decide (m.kind ≤ 9) && (goodB ((m.withM ma m.mn mq).withE ea m.en eq) m.kind.toNat && (thereB O m.peer && !(m.ps.any fun p => !thereB O p))))) = _
  by_cases h1 : 1 ≤ m.kind
  · by_cases h9 : m.kind ≤ 9
    · have e : goodB ((m.withM ma m.mn mq).withE ea m.en eq) m.kind.toNat = rgoodB m m.kind.toNat ks es := by
        exact good_rgood (m := (m.withM ma m.mn mq).withE ea m.en eq) (ks := ks) (es := es) (by omega) (by omega) (by show m.kind = _; omega) hm he
      rw [e, decide_eq_true h1, decide_eq_true h9, decide_eq_true (show m.kind ≤ 19 by omega)]
      simp
    · rw [decide_eq_false h9]; simp
  · rw [decide_eq_false h1]; simp

/-! One act, both ways. -/
theorem strip_fwd (O : OV) (p : Int) (m n : MsgV) (pa pb : Option Addr) (pc pd : Nat) (hp : m.peer = n.peer) (hh : m.hops = n.hops) (hm : stripM m = stripM n) : stripO (forwardO O p m pa pc) = stripO (forwardO O p n pb pd) := by
  unfold forwardO fwdN
  rw [hp, hh]
  by_cases h1 : n.peer = O.V.self
  · rw [if_pos h1, if_pos h1]
  · rw [if_neg h1, if_neg h1]
    by_cases h2 : n.hops = 0 ∨ othersL O [p, n.peer] = []
    · rw [if_pos h2, if_pos h2]
    · rw [if_neg h2, if_neg h2]
      unfold passO
      refine strip_put rfl ?_
      have := congrArg (fun x : MsgV => { x with hops := n.hops - 1 }) hm
      unfold onM stripM at *
      simp only [hh] at *
      exact this
theorem strip_take {O : OV} {p : Int} {m : MsgV} {ma ea pa pb : Option Addr} {mq eq pn pc po pd k : Nat} : stripO (takeO O p ((m.withM ma m.mn mq).withE ea m.en eq) k pa pn pc) = stripO (takeO O p m k pb po pd) := by
  match k with
  | 1 => rfl
  | 2 => exact strip_fwd _ _ _ _ _ _ _ _ rfl rfl rfl
  | 3 => rfl
  | 4 => rfl
  | 5 => rfl
  | 6 => rfl
  | 7 =>
    show stripO (shuffleO _ _ _ _ _ _) = stripO (shuffleO _ _ _ _ _ _)
    generalize heardO O p = H
    unfold shuffleO
    show stripO (if m.peer = H.V.self then H else if 0 < m.hops ∧ fwdN H p m ≠ [] then _ else _) = _
    by_cases h1 : m.peer = H.V.self
    · rw [if_pos h1, if_pos h1]
    · rw [if_neg h1, if_neg h1]
      by_cases h2 : 0 < m.hops ∧ fwdN H p m ≠ []
      · rw [if_pos h2, if_pos h2]
        unfold passO
        exact strip_put rfl rfl
      · rw [if_neg h2, if_neg h2]
        unfold swapO
        rw [strip_learnAll, strip_learnAll]
        refine congrArg (fun z => learnAllO z _) ?_
        exact strip_put rfl rfl
  | 8 => rfl
  | 0 => rfl
  | n + 9 => rfl
theorem strip_tick {O : OV} {pa pb : Option Addr} {pn pc po pd : Nat} : stripO (tickR O pa pn pc) = stripO (tickR O pb po pd) := by
  unfold tickR
  split
  · unfold beatO
    split
    · rfl
    · exact strip_put (O := { tick1 O with L := (tick1 O).L ++ beatsL (tick1 O).V.a }) rfl rfl
  · rfl
theorem step_rel {O P X Y : OV} {q : OAct} {e k : Int} (hr : freshO P = O) (hm : q.ks.length = q.m.mn) (he : q.es.length = q.m.en) (hS : StepR O q X e) (hT : RStep P q Y k) : stripO X = stripO Y ∧ e = k := by
  subst hr
  have hn : onodeB (freshO P) q.peer = onodeB P q.peer := rfl
  have hf : ∀ ma mq ea eq, fitsAll (freshO P) ((q.m.withM ma q.m.mn mq).withE ea q.m.en eq) = rfitsB P q.m q.ks q.es := fun ma mq ea eq => fits_rfits rfl hm he
  cases hS with
  | joinNo hk h1 => cases hT <;> first | exact ⟨rfl, rfl⟩ | (rw [hn] at h1; simp_all) | (exfalso; omega)
  | join hk h1 => cases hT <;> first | exact ⟨rfl, rfl⟩ | (rw [hn] at h1; simp_all) | (exfalso; omega)
  | leave hk => cases hT <;> first | exact ⟨rfl, rfl⟩ | (exfalso; omega)
  | heardNo hk h1 => cases hT <;> first | exact ⟨rfl, rfl⟩ | (rw [hn] at h1; simp_all) | (exfalso; omega)
  | heard hk h1 => cases hT <;> first | exact ⟨rfl, rfl⟩ | (rw [hn] at h1; simp_all) | (exfalso; omega)
  | tick hk pa pn pc => cases hT <;> first | exact ⟨strip_tick, rfl⟩ | (exfalso; omega)
  | take hk ma mq ea eq X e h =>
    cases h with
    | no h1 => cases hT <;> first | exact ⟨rfl, rfl⟩ | (rw [hn] at h1; simp_all) | (exfalso; omega)
    | bad h1 h2 =>
      rw [hf] at h2
      cases hT <;> first | exact ⟨rfl, rfl⟩ | (rw [hn] at h1; simp_all) | (exfalso; omega)
    | yes h1 k g1 g9 gk gf pa pn pc =>
      have h2 : fitsAll (freshO P) ((q.m.withM ma q.m.mn mq).withE ea q.m.en eq) = true := by
        unfold fitsAll
        rw [gk, Int.toNat_natCast, gf, decide_eq_true (by omega), decide_eq_true (by omega)]; rfl
      rw [hf] at h2
      cases hT with
      | take hk' hn' hf' k2 j1 j9 jm pb po pd =>
        have : k2 = k := by
          have : q.m.kind = k := gk
          omega
        subst this
        exact ⟨strip_take, rfl⟩
      | takeNo hk' hn' => rw [hn, hn'] at h1; cases h1
      | takeBad hk' hn' hf' => rw [hf'] at h2; cases h2
      | _ => exfalso; omega

/-! What is alike once addresses are struck out. -/
theorem strip_eq {X Y : OV} (h : stripO X = stripO Y) : freshO X = freshO Y ∧ X.C = Y.C ∧ stripL X.L = stripL Y.L := by
  have a : freshO (stripO X) = freshO (stripO Y) := congrArg freshO h
  have b : (stripO X).C = (stripO Y).C := congrArg OV.C h
  have c : (stripO X).L = (stripO Y).L := congrArg OV.L h
  exact ⟨a, b, c⟩
theorem strip_msg {x y : MsgV} (h : stripM x = stripM y) (hx : x.mn = 0 ∧ x.en = 0) : MsgEq x y := by
  have f := fun {α : Type} (g : MsgV → α) => congrArg g h
  exact ⟨f (·.kind), f (·.peer), f (·.hops), f (·.high), f (·.number), f (·.sum), f (·.mc), f (·.ms), f (·.key), f (·.ps), ⟨hx.1, (f (·.mn)).symm.trans hx.1⟩, ⟨hx.2, (f (·.en)).symm.trans hx.2⟩⟩
theorem strip_lets {L M : List LetV} (h : stripL L = stripL M) (hx : ∀ x ∈ L, x.m.mn = 0 ∧ x.m.en = 0) : L.length = M.length ∧ ∀ i (h1 : i < L.length) (h2 : i < M.length), L[i].to = M[i].to ∧ MsgEq L[i].m M[i].m := by
  have hl : L.length = M.length := by have := congrArg List.length h; unfold stripL at this; rwa [List.length_map, List.length_map] at this
  refine ⟨hl, fun i h1 h2 => ?_⟩
  have e : (stripL L)[i]? = (stripL M)[i]? := by rw [h]
  unfold stripL at e
  rw [List.getElem?_map, List.getElem?_map, List.getElem?_eq_getElem h1, List.getElem?_eq_getElem h2] at e
  simp only [Option.map_some, Option.some.injEq, LetV.mk.injEq] at e
  exact ⟨e.1, strip_msg e.2 (hx _ (List.getElem_mem h1))⟩

/-! Whom one asks: nobody, or a node. -/
def AskN (O : OV) : Prop := O.asked = -1 ∨ 0 ≤ O.asked
theorem raise_asked (O : OV) (p : Int) : (raiseO O p).asked = O.asked := by unfold raiseO; split <;> rfl
theorem lower_asked (O : OV) (p : Int) : (lowerO O p).asked = O.asked := by unfold lowerO; split <;> rfl
theorem heard_asked (O : OV) (p : Int) : (heardO O p).asked = O.asked := by unfold heardO learnO; split <;> rfl
theorem learnAll_asked (l : List Int) : ∀ O : OV, (learnAllO O l).asked = O.asked := by
  induction l with
  | nil => intro O; rfl
  | cons a l ih => intro O; exact ih (learnO O a)
theorem leave_asked (l : List Int) : ∀ O : OV, (leaveAllO O l).asked = O.asked := by
  induction l with
  | nil => intro O; rfl
  | cons a l ih =>
    intro O
    refine (ih (partO O a)).trans ?_
    unfold partO
    exact lower_asked _ _
theorem forward_asked (O : OV) (p : Int) (m : MsgV) (pa : Option Addr) (pc : Nat) : (forwardO O p m pa pc).asked = O.asked := by
  unfold forwardO
  split
  · rfl
  · split
    · split
      · rfl
      · exact raise_asked _ _
    · unfold passO
      split <;> rfl
theorem shuffle_asked (O : OV) (p : Int) (m : MsgV) (pa : Option Addr) (pn pc : Nat) : (shuffleO O p m pa pn pc).asked = O.asked := by
  unfold shuffleO
  split
  · rfl
  · split
    · rfl
    · unfold swapO; exact learnAll_asked _ _
theorem answer_asked {O : OV} (h : AskN O) (p : Int) (b : Bool) : AskN (answerO O p b) := by
  unfold answerO
  split
  · split
    · left; exact raise_asked _ _
    · left; rfl
  · exact h
theorem take_asked {O : OV} (h : AskN O) (p : Int) (m : MsgV) (k : Nat) (pa : Option Addr) (pn pc : Nat) : AskN (takeO O p m k pa pn pc) := by
  have hh : AskN (heardO O p) := by unfold AskN; rw [heard_asked]; exact h
  match k with
  | 1 => show AskN (take1O O p); unfold AskN take1O joinedO; rw [raise_asked]; exact hh
  | 2 => show AskN (forwardO _ _ _ _ _); unfold AskN; rw [forward_asked]; exact hh
  | 3 =>
    show AskN (neighborO _ _ _)
    unfold neighborO
    split
    · exact hh
    · unfold AskN; simp only [raise_asked]; exact hh
  | 4 => exact answer_asked hh _ _
  | 5 => exact answer_asked hh _ _
  | 6 => show AskN (lowerO _ _); unfold AskN; rw [lower_asked]; exact hh
  | 7 => show AskN (shuffleO _ _ _ _ _ _); unfold AskN; rw [shuffle_asked]; exact hh
  | 8 => show AskN (learnAllO _ _); unfold AskN; rw [learnAll_asked]; exact hh
  | 0 => exact hh
  | n + 9 => exact hh
theorem ask_asked {O : OV} (w : ∀ x ∈ O.V.p, 0 ≤ x) (h : AskN O) : AskN (askO O) := by
  unfold askO
  split
  · exact h
  · have h1 : (askO1 O).V = O.V := by unfold askO1; split <;> rfl
    have h2 : AskN (askO1 O) := by unfold askO1; split; (exact h); (left; rfl)
    unfold askO2
    split
    · exact h2
    · rename_i hw
      right
      show 0 ≤ pickV _ (wantedL (askO1 O))
      have hs : ∀ x ∈ wantedL (askO1 O), 0 ≤ x := by
        intro x hx
        unfold wantedL at hx
        split at hx
        · cases hx
        · rw [h1] at hx; exact w x hx
      exact hs _ (pickV_mem hw)
theorem tick_asked {O : OV} (w : WOK O) (h : AskN O) (pa : Option Addr) (pn pc : Nat) : AskN (tickR O pa pn pc) := by
  have wt : WOK { O with ticks := O.ticks + 1 } := (Path.one (.ticks (O := O))).wok w
  have ws : WOK (silentO { O with ticks := O.ticks + 1 } O.V.a) := (path_silent _ _).wok wt
  have h1 : AskN (tick1 O) := by
    unfold tick1
    refine ask_asked (fun x hx => (onode_iff.1 (ws.n.2 x hx)).1) ?_
    unfold AskN
    rw [(silent_num _ _).1]
    exact h
  unfold tickR
  split
  · unfold beatO
    split <;> exact h1
  · exact h1
theorem step_asked {O X : OV} {q : OAct} {e : Int} (w : WOK O) (h : AskN O) (hS : StepR O q X e) : AskN X := by
  cases hS with
  | joinNo => exact h
  | join => unfold AskN; simp only [raise_asked]; exact h
  | leave => unfold AskN leaveO; rw [leave_asked]; exact h
  | heardNo => exact h
  | heard => unfold AskN; rw [heard_asked]; exact h
  | tick => exact tick_asked w h _ _ _
  | take hk ma mq ea eq X e h1 =>
    cases h1 with
    | no => exact h
    | bad => exact h
    | yes => exact take_asked h _ _ _ _ _ _
end Go.Proofs.YtbpdchaeakihkaaGreat

/- OverlayPlays, its parts: how much an act tells; what is left of the dice; the document's lists, one by one. -/
namespace Go.Proofs.YtbpdchaeakihkaaGreat
open Go.RowKit Go.Qd

/-! How many changes an act tells. -/
theorem snocC (l : List (Int × Bool)) (x : Int × Bool) : (l ++ [x]).length = l.length + 1 := by rw [List.length_append]; rfl
theorem raise_C (O : OV) (p : Int) : (raiseO O p).C.length ≤ O.C.length + 2 := by
  unfold raiseO
  split
  · show ((if 0 ≤ raiseG O.V O.D then O.C ++ [(raiseG O.V O.D, false)] else O.C) ++ [(p, true)]).length ≤ _
    rw [snocC]
    split
    · rw [snocC]; omega
    · omega
  · omega
theorem lower_C (O : OV) (p : Int) : (lowerO O p).C.length ≤ O.C.length + 1 := by
  unfold lowerO
  split
  · show (O.C ++ [(p, false)]).length ≤ _; rw [snocC]; omega
  · omega
theorem heard_C (O : OV) (p : Int) : (heardO O p).C = O.C := by unfold heardO learnO; split <;> rfl
theorem learnAll_C (l : List Int) : ∀ O : OV, (learnAllO O l).C = O.C := by
  induction l with
  | nil => intro O; rfl
  | cons a l ih => intro O; exact ih (learnO O a)
theorem forward_C (O : OV) (p : Int) (m : MsgV) (pa : Option Addr) (pc : Nat) : (forwardO O p m pa pc).C.length ≤ O.C.length + 2 := by
  unfold forwardO
  split
  · omega
  · split
    · split
      · omega
      · exact raise_C _ _
    · unfold passO
      split
      · show O.C.length ≤ _; omega
      · show O.C.length ≤ _; omega
theorem shuffle_C (O : OV) (p : Int) (m : MsgV) (pa : Option Addr) (pn pc : Nat) : (shuffleO O p m pa pn pc).C = O.C := by
  unfold shuffleO
  split
  · rfl
  · split
    · rfl
    · unfold swapO; exact learnAll_C _ _
theorem answer_C (O : OV) (p : Int) (b : Bool) : (answerO O p b).C.length ≤ O.C.length + 2 := by
  unfold answerO
  split
  · split
    · exact raise_C _ _
    · show O.C.length ≤ _; omega
  · omega
theorem take_C (O : OV) (p : Int) (m : MsgV) (k : Nat) (pa : Option Addr) (pn pc : Nat) : (takeO O p m k pa pn pc).C.length ≤ O.C.length + 2 := by
  rw [← heard_C O p]
  match k with
  | 1 => exact raise_C (heardO O p) p
  | 2 => exact forward_C _ _ _ _ _
  | 3 =>
    show (neighborO _ _ _).C.length ≤ _
    unfold neighborO
    split
    · show (heardO O p).C.length ≤ _; omega
    · exact raise_C _ _
  | 4 => exact answer_C _ _ _
  | 5 => exact answer_C _ _ _
  | 6 => exact Nat.le_trans (lower_C _ _) (by omega)
  | 7 => show (shuffleO _ _ _ _ _ _).C.length ≤ _; rw [shuffle_C]; omega
  | 8 => show (learnAllO _ _).C.length ≤ _; rw [learnAll_C]; omega
  | 0 => show (heardO O p).C.length ≤ _; omega
  | n + 9 => show (heardO O p).C.length ≤ _; omega
theorem silent_C (l : List Int) : ∀ O : OV, (silentO O l).C.length ≤ O.C.length + l.length := by
  induction l with
  | nil => intro O; exact Nat.le_refl _
  | cons a l ih =>
    intro O
    have h1 := ih (stepS O a)
    have h2 : (stepS O a).C.length ≤ O.C.length + 1 := by
      unfold stepS
      split
      · exact lower_C _ _
      · show O.C.length ≤ _; omega
    have e : silentO O (a :: l) = silentO (stepS O a) l := rfl
    rw [e, List.length_cons]; omega
theorem tick_C (O : OV) (pa : Option Addr) (pn pc : Nat) : (tickR O pa pn pc).C.length ≤ O.C.length + O.V.a.length := by
  have ha : ∀ P : OV, (askO P).C = P.C := by
    intro P
    have e : (askO1 P).C = P.C := by unfold askO1; split <;> rfl
    unfold askO
    split
    · rfl
    · unfold askO2
      split <;> exact e
  have h1 : (tick1 O).C.length ≤ O.C.length + O.V.a.length := by
    unfold tick1
    rw [ha]
    exact silent_C _ { O with ticks := O.ticks + 1 }
  unfold tickR
  split
  · unfold beatO
    split <;> exact h1
  · exact h1
theorem step_lenC {O X : OV} {q : OAct} {e : Int} (w : WOK O) (h : StepR O q X e) : X.C.length ≤ O.C.length + 20 := by
  have h11 := wok_a w
  cases h with
  | joinNo => omega
  | join => have := raise_C O q.peer; show (raiseO O q.peer).C.length ≤ _; omega
  | leave =>
    have := (leaveAll_ok O.V.a w.ok).2.2
    show (leaveAllO O O.V.a).C.length ≤ _
    omega
  | heardNo => omega
  | heard => rw [heard_C]; omega
  | tick hk pa pn pc => have := tick_C O pa pn pc; omega
  | take hk ma mq ea eq X e h1 =>
    cases h1 with
    | no => omega
    | bad => omega
    | yes => exact Nat.le_trans (take_C _ _ _ _ _ _ _) (by omega)

theorem bare_lets {L M : List LetV} (h : L.length = M.length ∧ ∀ i (h1 : i < L.length) (h2 : i < M.length), L[i].to = M[i].to ∧ MsgEq L[i].m M[i].m) :
    (L.map LetV.bare).length = M.length ∧ ∀ i (h1 : i < (L.map LetV.bare).length) (h2 : i < M.length), (L.map LetV.bare)[i].to = M[i].to ∧ MsgEq (L.map LetV.bare)[i].m M[i].m := by
  refine ⟨by rw [List.length_map]; exact h.1, fun i h1 h2 => ?_⟩
  have h3 : i < L.length := by rwa [List.length_map] at h1
  obtain ⟨a, b⟩ := h.2 i h3 h2
  rw [List.getElem_map]
  exact ⟨a, ⟨b.k, b.p, b.h, b.i, b.n, b.s, b.c, b.t, b.y, b.l, ⟨rfl, b.ma.2⟩, ⟨rfl, b.ea.2⟩⟩⟩

section
variable {W w : World} {R : List HP} {post : Ending → World → Prop} {x : RO} {O : OV} {b d : Nat}
theorem ps_at {L : List LetV} (s : St W w (psR W L :: R)) {i : Nat} (h : i < L.length) : RdS w 1 L[i].m.pa L[i].m.pn L[i].m.pc (ivs L[i].m.ps) := by
  let g : LetV → HP := fun y => RdH W 1 y.m.pa y.m.pn y.m.pc (ivs y.m.ps)
  have s1 : St W w ((L.map g) ++ R) := (St.flat _).1 s
  have e : (L.map g) ++ R = (L.take i).map g ++ (g L[i] :: ((L.drop (i + 1)).map g ++ R)) := by
    have h2 : L = L.take i ++ L[i] :: L.drop (i + 1) := by rw [List.getElem_cons_drop]; exact (List.take_append_drop i L).symm
    conv => lhs; rw [h2]
    rw [List.map_append, List.map_cons, List.append_assoc]; rfl
  rw [e] at s1
  have s2 := (St.flat _).2 s1
  exact RdH.rd (St.pick 1 s2)
set_option maxRecDepth 100000 in
theorem oleft_c {n : Nat} (hn : O.D.length = n) (st : St W w (OvA b d O :: R)) (K : post (.returned (.int .i64 (n : Int))) w) : Calls Tryz.prog 25 #[.pointer (some ⟨d, 0, none⟩)] w post := by
  have HK := hid K; clear K
  obtain ⟨v, s1⟩ := OvA.open st
  obtain ⟨ao, m, c, s2⟩ := DiceA.open (St.pick 7 s1)
  have c0 := s2.cell
  have hm : m = n := by rw [← hn]; exact (ivs_len (OwnS.rd (St.pick 1 s2))).symm
  subst hm
  clear hn
  go_enter Tryz.func25, Tryz.ntmps25
  go_wp2
  exact HK.out
/-- What the law reads of the document's overlay. -/
theorem playS {E n m k : Nat} (h : x.ok) (hl : x.ln = n) (hc : x.cn = m) (hd : x.dn = k) (s : St W w (row E 0 x.cells :: R)) :
    w.cell? ⟨E, 63, none⟩ = some (.slice x.la n x.lc) ∧ w.cell? ⟨E, 64, none⟩ = some (.slice x.ca m x.cc) ∧ w.cell? ⟨E, 47, none⟩ = some (.slice x.da k x.dc) ∧ (loadG 96 (.pointer (some ⟨E, 0, none⟩))).run Tryz.prog w = .ok (.agg x.cells.toArray) w := by
  subst hl hc hd
  have c := roC h s
  exact ⟨c.2.2.2.2.2.2.1, c.2.2.2.2.2.2.2, c.2.2.1, roLd h s⟩
/-- A new one's lists. -/
theorem new_mem {c : List Int} {self : Int} {D : List Int} {a : Option Addr} {n k : Nat} (r : RdS W 1 a n k (ivs D)) (s : St W w R) : St W w ((newR c self D a n k).mem W :: R) := by
  refine RO.memC ?_
  have s1 : St W w (psR W [] :: R) := (St.flat []).2 s
  exact RdH.old r (OwnS.none0 (sz := 13) (OwnS.none0 (sz := 2) s1))
end
end Go.Proofs.YtbpdchaeakihkaaGreat
