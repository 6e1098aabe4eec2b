/- A mill: Take. Printed by mkRumV.py. -/
import Derived.Test.YtojfjbbggpfijaaGreatDoorRumsB
import Derived.Test.YtojfjbbggpfijaaGreatDoorRumsO
import Derived.Test.YtojfjbbggpfijaaGreatDoorMsgs
namespace Go.Proofs.YtojfjbbggpfijaaGreatDoor
open Go.RowKit Go.Qd RepV

/-- The rumors behind some echoes. -/
def bumpsL (L : Int) (l : List TkV) (ks : List MkV) : List TkV := ks.foldl (bumpL L) l
theorem bumpsL_take {L : Int} {l : List TkV} {ks : List MkV} {i : Nat} (h : i < ks.length) : bumpsL L l (ks.take (i + 1)) = bumpL L (bumpsL L l (ks.take i)) ks[i] := by
  unfold bumpsL; rw [List.take_succ_eq_append_getElem h, List.foldl_append]; rfl
theorem HotI.bumps {H L : Int} {l : List TkV} (h : HotI H L l) (ks : List MkV) : HotI H L (bumpsL L l ks) := by
  unfold bumpsL
  induction ks generalizing l with
  | nil => exact h
  | cons k ks ih => exact ih (h.bump k)
/-- What a mill does with a message's marks and entries. -/
def takeM (c : List Int) (r : RepV) (l : List TkV) (ks : List MkV) (es : List EnV) : MilV := mmL (c.getD 14 0) ⟨r, bumpsL (c.getD 15 0) l ks, [], []⟩ es
/-- What is told back. -/
def backL (c : List Int) (F : MilV) (es : List EnV) : List EnV := if c.getD 16 0 = 1 then toldL F.r (c.getD 17 0) (es.map (·.key)) F.l else []
/-- An echo. -/
def echo15 (ka : Option Addr) (kn kc : Nat) (ea : Option Addr) (en eq : Nat) : MsgV := { kindM 15 with ma := ka, mn := kn, mq := kc, ea := ea, en := en, eq := eq }
def bsLt (x : Value) : Sem Value := Instr.buildSlice 53 1 #[(0, x)]
theorem execOp_bsLt (ρ : Operand → Value) (dst : Option Tmp) (a : Operand) (ty : TypeId) (pos : String) (after : Array Edge) (guard : Option (Nat × Bool)) :
    execOp ρ { dst, op := .buildSlice 53 1 #[(0, a)], type := ty, pos, after, guard } = (do pure (.value (← bsLt (ρ a)))) := by simp [execOp, bsLt]
theorem run_bsLt (x : LetV) (w : World) : (bsLt (.agg x.cells.toArray)).run Tryz.prog w = .ok (.slice (some ⟨w.heap.size, 0, none⟩) 1 1) (w.alloc (.cells x.cells.toArray 65)) := by kernel_rfl
theorem stC_more (l : List ByteArray) (x : ByteArray) : stC l ++ [Value.string x] = stC (l ++ [x]) := by simp [stC]
section
attribute [local go_sem ↓] execOp_ldAny execOp_bsLt
attribute [local go_sem] run_bsLt
variable {W w : World} {R : List HP} {post : Ending → World → Prop} {c : List Int} {b dp : Nat} {A : RAd} {r : RepV} {m : MsgV} {ks : List MkV} {es : List EnV} {l : List TkV} {p : Int} {a : Option Addr} {n cp : Nat}

set_option maxRecDepth 100000 in
set_option maxHeartbeats 4000000 in
theorem take_no (hc : c.length = 20) (h : nodeB (c.getD 0 0) r.site p = false) (st : St W w (row b 0 (millC A.p c dp a n cp) :: RepA A r :: R))
    (K : ∀ w', St W w' (row b 0 (millC A.p c dp a n cp) :: RepA A r :: R) → post (.returned (.tuple #[.slice none 0 0, .slice none 0 0, .int .i64 1])) w') :
    Calls Tryz.prog 13 #[.pointer (some ⟨b, 0, none⟩), .int .i64 p, .agg m.cells.toArray] w post := by
  have HK := hid K; clear K
  have HC := hid hc; have HH := hid h
  clear hc h
  go_enter Tryz.func13, Tryz.ntmps13
  go_wp2_with (first
    | (refine wpl_boxA (vs := m.cells) rfl (.tmp 2) rfl rfl st ?_; rintro T w1 s1)
    | (go_at_call 38; refine mnode_c HC.out (s1.perm [1, 1]) ?_; rw [HH.out]))
  go_ret3
  exact HK.out _ s1.drop

set_option maxRecDepth 100000 in
set_option maxHeartbeats 4000000 in
theorem take_bad (hc : c.length = 20) (h : nodeB (c.getD 0 0) r.site p = true) (hg : goodM m ks es = true → m.kind ≠ 14 ∧ m.kind ≠ 15)
    (hp : Rds W R 1 m.pa m.pn m.pc (ivs m.ps)) (hn : m.pn ≤ 4096) (hpM : Rds W R 3 m.ma m.mn m.mq (mkC ks)) (hnM : m.mn ≤ 4096) (hpE : Rds W R 9 m.ea m.en m.eq (enC es)) (hnE : m.en ≤ 4096)
    (st : St W w (row b 0 (millC A.p c dp a n cp) :: RepA A r :: R))
    (K : ∀ w', St W w' (row b 0 (millC A.p c dp a n cp) :: RepA A r :: R) → post (.returned (.tuple #[.slice none 0 0, .slice none 0 0, .int .i64 4])) w') :
    Calls Tryz.prog 13 #[.pointer (some ⟨b, 0, none⟩), .int .i64 p, .agg m.cells.toArray] w post := by
  have HK := hid K; clear K
  have HC := hid hc; have HH := hid h
  have HP1 := hid hp; have HPM := hid hpM; have HPE := hid hpE
  have HN := hid hn; have HNM := hid hnM; have HNE := hid hnE
  obtain ⟨g, hgg⟩ : ∃ g, goodM m ks es = g := ⟨_, rfl⟩
  obtain ⟨k, hk⟩ : ∃ k, m.kind = k := ⟨_, rfl⟩
  rw [hgg, hk] at hg
  have HG := hid hgg; have HKD := hid hk
  clear hc h hp hn hpM hnM hpE hnE hgg hk
  cases g with
  | false =>
    go_enter Tryz.func13, Tryz.ntmps13
    go_wp2_with (first
      | (refine wpl_boxA (vs := m.cells) rfl (.tmp 2) rfl rfl st ?_; rintro T w1 s1; obtain ⟨l0, _, _, _⟩ := msg_ld s1)
      | (go_at_call 38; refine mnode_c HC.out (s1.perm [1, 1]) ?_; rw [HH.out])
      | (go_at_call 39; refine good_c HP1.out.cons.cons.cons HN.out HPM.out.cons.cons.cons HNM.out HPE.out.cons.cons.cons HNE.out s1 ?_; rintro z w2 hz s2; rw [HG.out, Bool.not_false] at hz))
    go_ret3
    exact HK.out _ s2.drop
  | true =>
    obtain ⟨h1, h2⟩ := hg rfl
    have e1 : (k != 14) = true := by simp [h1]
    have e2 : (k != 15) = true := by simp [h2]
    clear h1 h2
    go_enter Tryz.func13, Tryz.ntmps13
    go_wp2_with (first
      | (refine wpl_boxA (vs := m.cells) rfl (.tmp 2) rfl rfl st ?_; rintro T w1 s1; obtain ⟨l0, _, _, _⟩ := msg_ld s1)
      | (go_at_call 38; refine mnode_c HC.out (s1.perm [1, 1]) ?_; rw [HH.out])
      | (go_at_call 39; refine good_c HP1.out.cons.cons.cons HN.out HPM.out.cons.cons.cons HNM.out HPE.out.cons.cons.cons HNE.out s1 ?_; rintro z w2 hz s2; rw [HG.out, Bool.not_true] at hz; clear l0; obtain ⟨l0, l1, _, _⟩ := msg_ld s2; rw [HKD.out] at l1))
    go_ret3
    exact HK.out _ s2.drop

set_option maxRecDepth 100000 in
set_option maxHeartbeats 16000000 in
theorem take_ok (hc : c.length = 20) (h : nodeB (c.getD 0 0) r.site p = true) (hg : goodM m ks es = true) (hkd : m.kind = 14 ∨ m.kind = 15)
    (h14 : 1 ≤ c.getD 14 0 ∧ c.getD 14 0 ≤ 4000) (h15 : 1 ≤ c.getD 15 0 ∧ c.getD 15 0 ≤ 4000) (hr : RepOK r) (hd : CalmD r.d) (hh : HotI (c.getD 14 0) (c.getD 15 0) l)
    (hp : Rds W R 1 m.pa m.pn m.pc (ivs m.ps)) (hn : m.pn ≤ 4096) (hpM : Rds W R 3 m.ma m.mn m.mq (mkC ks)) (hnM : m.mn ≤ 4096) (hpE : Rds W R 9 m.ea m.en m.eq (enC es)) (hnE : m.en ≤ 4096)
    (st : St W w (OwnS 4 a n cp (tkC l) :: row b 0 (millC A.p c dp a n cp) :: RepA A r :: R))
    (K15 : m.kind = 15 → ∀ F na nn nc a' n' cp' w', F = takeM c r l ks es → St W w' (OwnS 9 na nn nc (enC F.news) :: OwnS 4 a' n' cp' (tkC F.l) :: row b 0 (millC A.p c dp a' n' cp') :: RepA A F.r :: R) →
      post (.returned (.tuple #[.slice none 0 0, .slice na nn nc, .int .i64 0])) w')
    (K14 : m.kind = 14 → ∀ F na nn nc ka kn kc ta tn tc a' n' cp' B w', F = takeM c r l ks es → St W w' (row B 0 (LetV.cells ⟨p, echo15 ka kn kc ta tn tc⟩) :: OwnS 9 na nn nc (enC F.news) :: OwnS 3 ka kn kc (mkC F.known) :: OwnS 9 ta tn tc (enC (backL c F es)) ::
        OwnS 4 a' n' cp' (tkC F.l) :: row b 0 (millC A.p c dp a' n' cp') :: RepA A F.r :: R) → post (.returned (.tuple #[.slice (some ⟨B, 0, none⟩) 1 1, .slice na nn nc, .int .i64 0])) w') :
    Calls Tryz.prog 13 #[.pointer (some ⟨b, 0, none⟩), .int .i64 p, .agg m.cells.toArray] w post := by
  have HK15 := hid K15; have HK14 := hid K14; clear K15 K14
  have HC := hid hc; have HH := hid h; have HG := hid hg
  have H14 := hid h14; have H15 := hid h15; have HR := hid hr; have HD := hid hd; have HHT := hid hh
  have HP1 := hid hp; have HPM := hid hpM; have HPE := hid hpE
  have HN := hid hn; have HNM := hid hnM; have HNE := hid hnE
  obtain ⟨ma, hma⟩ : ∃ x, m.ma = x := ⟨_, rfl⟩
  obtain ⟨mn, hmn⟩ : ∃ x, m.mn = x := ⟨_, rfl⟩
  obtain ⟨mq, hmq⟩ : ∃ x, m.mq = x := ⟨_, rfl⟩
  obtain ⟨ea, hea⟩ : ∃ x, m.ea = x := ⟨_, rfl⟩
  obtain ⟨en, hen⟩ : ∃ x, m.en = x := ⟨_, rfl⟩
  obtain ⟨eq, heq⟩ : ∃ x, m.eq = x := ⟨_, rfl⟩
  have HM2 : Hid (Rds W R 3 ma mn mq (mkC ks)) := hid (by rw [← hma, ← hmn, ← hmq]; exact hpM)
  have HE2 : Hid (Rds W R 9 ea en eq (enC es)) := hid (by rw [← hea, ← hen, ← heq]; exact hpE)
  have HMN2 : Hid (mn ≤ 4096) := hid (by rw [← hmn]; exact hnM)
  have HEN2 : Hid (en ≤ 4096) := hid (by rw [← hen]; exact hnE)
  have HF := hid (And.intro hma (And.intro hmn (And.intro hmq (And.intro hea (And.intro hen heq)))))
  have HLM : Hid (ks.length = mn) := hid (mkC_ln (HM2.out w (st.dropN 3)))
  have HLE : Hid (es.length = en) := hid (enC_ln (HE2.out w (st.dropN 3)))
  have HB : Hid (∀ i, HotI (c.getD 14 0) (c.getD 15 0) (bumpsL (c.getD 15 0) l (ks.take i))) := hid (fun i => hh.bumps _)
  have LDM : Hid (∀ {w' : World} {R' : List HP} {T : Nat}, St W w' (row T 0 m.cells :: R') → (loadG 62 (.pointer (some ⟨T, 0, none⟩))).run Tryz.prog w' = .ok (.agg m.cells.toArray) w' ∧ (loadG 3 (.pointer (some ⟨T, 0, none⟩))).run Tryz.prog w' = .ok (.int .i64 m.kind) w' ∧
      (loadG 54 (.pointer (some ⟨T, 9 + 2, none⟩))).run Tryz.prog w' = .ok (.slice ea en eq) w' ∧ (loadG 60 (.pointer (some ⟨T, 8 + 2, none⟩))).run Tryz.prog w' = .ok (.slice ma mn mq) w') :=
    hid (fun s => by have := msg_ld s; rw [HF.out.1, HF.out.2.1, HF.out.2.2.1, HF.out.2.2.2.1, HF.out.2.2.2.2.1, HF.out.2.2.2.2.2] at this; exact this)
  obtain ⟨k, hk⟩ : ∃ k, m.kind = k := ⟨_, rfl⟩
  have HKD := hid hk
  have HK2 : Hid (k = 14 ∨ k = 15) := hid (by rw [← hk]; exact hkd)
  clear hc h hg hkd h14 h15 hr hd hh hp hn hpM hnM hpE hnE hma hmn hmq hea hen heq hk
  have e1 : (k != 15) = !(k == 15) := rfl
  obtain ⟨t, ht⟩ : ∃ t, (k == 15) = t := ⟨_, rfl⟩
  rw [ht] at e1
  have e0 : (k != 14) = t := by rcases HK2.out with h | h <;> subst h <;> exact ht
  have HT := hid ht
  go_enter Tryz.func13, Tryz.ntmps13
  go_upto_region 3 with (first
    | (refine wpl_boxA (vs := m.cells) rfl (.tmp 2) rfl rfl st ?_; rintro T w1 s1'; have s1 : St W w1 (row T 0 m.cells :: OwnS 4 a n cp (tkC l) :: row b 0 (millC A.p c dp a n cp) :: RepA A r :: R) := s1'; clear s1'; obtain ⟨l0, l1, l2, l3⟩ := LDM.out s1; rw [HKD.out] at l1)
    | (go_at_call 38; refine mnode_c HC.out (s1.perm [2, 2]) ?_; rw [HH.out]))
  cases t with
  | true =>
      simp only [Bool.not_true] at e1
      go_wp2_with (go_at_call 39; refine good_c HP1.out.cons.cons.cons.cons HN.out HPM.out.cons.cons.cons.cons HNM.out HPE.out.cons.cons.cons.cons HNE.out s1 ?_; rintro z w2 hz s2; rw [HG.out, Bool.not_true] at hz; clear l0 l1 l2 l3; obtain ⟨l0, l1, l2, l3⟩ := LDM.out s2; rw [HKD.out] at l1)
      go_loopw [40] (fun ii wr => ∃ (i n1 : Nat), i ≤ mn ∧ ii = .int .i64 i ∧ St W wr (OwnS 4 a n1 cp (tkC (bumpsL (c.getD 15 0) l (ks.take i))) :: row b 0 (millC A.p c dp a n1 cp) :: row T 0 m.cells :: RepA A r :: R)) (fun ii _ => mn - (intOf ii).toNat)
      case atStart => exact ⟨0, n, Nat.zero_le _, rfl, s2.perm [1, 1]⟩
      case round =>
        obtain ⟨i, n1, hi, rfl, sr⟩ := hrel
        by_cases hlt : i < mn
        · have hi2 : (i : Int) < (mn : Int) := by omega
          have hmx := HMN2.out
          have hiL : i < ks.length := by rw [HLM.out]; exact hlt
          have rd := HM2.out _ (sr.dropN 4)
          obtain ⟨gb, go, rfl⟩ := rd.addr (by omega)
          have lk := run_loadG agg54 (b := gb) (o := go + i * 3) (vs := ks[i].cells) rfl (fun _ _ hu => rd.at2 (mkC_get hiL hu))
          have hst := bumpsL_take (L := c.getD 15 0) (l := l) hiL
          have hI := HB.out i
          have hln : (bumpsL (c.getD 15 0) l (ks.take i)).length = n1 := tkC_ln (OwnS.rd sr)
          obtain ⟨q, hq⟩ : ∃ q, ks[i] = q := ⟨_, rfl⟩
          rw [hq] at lk hst
          obtain ⟨l9, hl9⟩ : ∃ l9, bumpsL (c.getD 15 0) l (ks.take i) = l9 := ⟨_, rfl⟩
          rw [hl9] at sr hst hI hln
          have HST := hid hst
          have hn4 : n1 ≤ 4096 := by have := hI.len; have := H14.out.2; omega
          have HN4 := hid hn4
          have HCT : Hid (∀ x ∈ l9, 0 ≤ x.n ∧ x.n < 2 ^ 62) := hid (fun x hx => ⟨(hI.cnt x hx).1, by have := (hI.cnt x hx).2; have := H15.out.2; omega⟩)
          clear hq hst hI hln hl9 hn4 hiL rd
          go_wp2_with (first
            | (refine wpl_allocA (vs := [.int .i64 0, .int .i64 0, .string ByteArray.empty]) rfl rfl (fun _ => by kernel_rfl) sr ?_; rintro E w4 s4)
            | (refine wpl_storeA (vs := q.cells) rfl (.tmp 10) (.tmp 43) (by rfl) agg54 (by rfl) (by rfl) rfl (mk_one q) s4 rfl ?_; rintro w5 s5; have lE := run_loadG agg54 (vs := q.cells) rfl s5.rowAll)
            | (go_at_call 40; refine echo_c HC.out HN4.out HCT.out (s5.perm [1, 1]) ?_; rintro n6 w6 hn6 s6; have HN6 := hid hn6; clear hn6))
          go_roundw
          case rel => exact ⟨i + 1, n6, by omega, by go_num, by rw [HST.out]; exact (s6.pick 2).drop⟩
          case measure => simp [intOf]; omega
        · have hie : i = mn := by omega
          subst hie
          rw [List.take_of_length_le (by rw [HLM.out]; exact Nat.le_refl _)] at sr
          have HI0 : Hid (MilI (c.getD 14 0) (c.getD 15 0) ⟨r, bumpsL (c.getD 15 0) l ks, [], []⟩) := hid ⟨HR.out, HD.out, HHT.out.bumps ks⟩
          clear l0 l1 l2 l3
          obtain ⟨l0, l1, l2, l3⟩ := LDM.out (St.pick 2 sr)
          rw [HKD.out] at l1
          go_upto_region 13 with (go_at_call 41; refine mmerge_c (s0 := ⟨r, bumpsL (c.getD 15 0) l ks, [], []⟩) HC.out H14.out H15.out.1 HI0.out ⟨rfl, rfl⟩ HEN2.out HE2.out.cons (sr.perm [0, 0, 1]) ?_; rintro F na nn nc ka kn kc a7 n7 c7 w7 hF7 s7; have HF7 : Hid (F = takeM c r l ks es) := hid hF7; clear hF7 l0 l1 l2 l3; obtain ⟨l0, l1, l2, l3⟩ := LDM.out (St.pick 5 s7); rw [HKD.out] at l1)
          have hkt : k = 15 := by simpa using HT.out
          have HK15B := hid (HK15.out (HKD.out.trans hkt))
          clear hkt
          go_wp2_with fail
          go_ret3
          exact HK15B.out F _ _ _ _ _ _ _ HF7.out ((s7.perm [1, 4]).dropN 2)
  | false =>
      simp only [Bool.not_false] at e1
      go_wp2_with (go_at_call 39; refine good_c HP1.out.cons.cons.cons.cons HN.out HPM.out.cons.cons.cons.cons HNM.out HPE.out.cons.cons.cons.cons HNE.out s1 ?_; rintro z w2 hz s2; rw [HG.out, Bool.not_true] at hz; clear l0 l1 l2 l3; obtain ⟨l0, l1, l2, l3⟩ := LDM.out s2; rw [HKD.out] at l1)
      go_loopw [40] (fun ii wr => ∃ (i n1 : Nat), i ≤ mn ∧ ii = .int .i64 i ∧ St W wr (OwnS 4 a n1 cp (tkC (bumpsL (c.getD 15 0) l (ks.take i))) :: row b 0 (millC A.p c dp a n1 cp) :: row T 0 m.cells :: RepA A r :: R)) (fun ii _ => mn - (intOf ii).toNat)
      case atStart => exact ⟨0, n, Nat.zero_le _, rfl, s2.perm [1, 1]⟩
      case round =>
        obtain ⟨i, n1, hi, rfl, sr⟩ := hrel
        by_cases hlt : i < mn
        · have hi2 : (i : Int) < (mn : Int) := by omega
          have hmx := HMN2.out
          have hiL : i < ks.length := by rw [HLM.out]; exact hlt
          have rd := HM2.out _ (sr.dropN 4)
          obtain ⟨gb, go, rfl⟩ := rd.addr (by omega)
          have lk := run_loadG agg54 (b := gb) (o := go + i * 3) (vs := ks[i].cells) rfl (fun _ _ hu => rd.at2 (mkC_get hiL hu))
          have hst := bumpsL_take (L := c.getD 15 0) (l := l) hiL
          have hI := HB.out i
          have hln : (bumpsL (c.getD 15 0) l (ks.take i)).length = n1 := tkC_ln (OwnS.rd sr)
          obtain ⟨q, hq⟩ : ∃ q, ks[i] = q := ⟨_, rfl⟩
          rw [hq] at lk hst
          obtain ⟨l9, hl9⟩ : ∃ l9, bumpsL (c.getD 15 0) l (ks.take i) = l9 := ⟨_, rfl⟩
          rw [hl9] at sr hst hI hln
          have HST := hid hst
          have hn4 : n1 ≤ 4096 := by have := hI.len; have := H14.out.2; omega
          have HN4 := hid hn4
          have HCT : Hid (∀ x ∈ l9, 0 ≤ x.n ∧ x.n < 2 ^ 62) := hid (fun x hx => ⟨(hI.cnt x hx).1, by have := (hI.cnt x hx).2; have := H15.out.2; omega⟩)
          clear hq hst hI hln hl9 hn4 hiL rd
          go_wp2_with (first
            | (refine wpl_allocA (vs := [.int .i64 0, .int .i64 0, .string ByteArray.empty]) rfl rfl (fun _ => by kernel_rfl) sr ?_; rintro E w4 s4)
            | (refine wpl_storeA (vs := q.cells) rfl (.tmp 10) (.tmp 43) (by rfl) agg54 (by rfl) (by rfl) rfl (mk_one q) s4 rfl ?_; rintro w5 s5; have lE := run_loadG agg54 (vs := q.cells) rfl s5.rowAll)
            | (go_at_call 40; refine echo_c HC.out HN4.out HCT.out (s5.perm [1, 1]) ?_; rintro n6 w6 hn6 s6; have HN6 := hid hn6; clear hn6))
          go_roundw
          case rel => exact ⟨i + 1, n6, by omega, by go_num, by rw [HST.out]; exact (s6.pick 2).drop⟩
          case measure => simp [intOf]; omega
        · have hie : i = mn := by omega
          subst hie
          rw [List.take_of_length_le (by rw [HLM.out]; exact Nat.le_refl _)] at sr
          have HI0 : Hid (MilI (c.getD 14 0) (c.getD 15 0) ⟨r, bumpsL (c.getD 15 0) l ks, [], []⟩) := hid ⟨HR.out, HD.out, HHT.out.bumps ks⟩
          clear l0 l1 l2 l3
          obtain ⟨l0, l1, l2, l3⟩ := LDM.out (St.pick 2 sr)
          rw [HKD.out] at l1
          go_upto_region 13 with (go_at_call 41; refine mmerge_c (s0 := ⟨r, bumpsL (c.getD 15 0) l ks, [], []⟩) HC.out H14.out H15.out.1 HI0.out ⟨rfl, rfl⟩ HEN2.out HE2.out.cons (sr.perm [0, 0, 1]) ?_; rintro F na nn nc ka kn kc a7 n7 c7 w7 hF7 s7; have HF7 : Hid (F = takeM c r l ks es) := hid hF7; clear hF7 l0 l1 l2 l3; obtain ⟨l0, l1, l2, l3⟩ := LDM.out (St.pick 5 s7); rw [HKD.out] at l1)
          have HI7 : Hid (MilI (c.getD 14 0) (c.getD 15 0) F) := hid (by rw [HF7.out]; exact HI0.out.all H14.out.1 H15.out.1 es)
          have hk14 : k = 14 := by simpa using e0
          have HK14B := hid (HK14.out (HKD.out.trans hk14))
          clear hk14
          obtain ⟨z, hz0⟩ : ∃ z, c.getD 16 0 = z := ⟨_, rfl⟩
          have HZ := hid hz0
          have lz : Hid (∀ {w' : World} {R' : List HP}, St W w' (row b 0 (millC A.p c dp a7 n7 c7) :: R') → (loadG 3 (.pointer (some ⟨b, 17, none⟩))).run Tryz.prog w' = .ok (.int .i64 z) w') := hid (fun s => run_ldP (by kernel_rfl) (by have := mill_cfg HC.out s (i := 16) (by decide); rw [HZ.out] at this; exact this))
          clear hz0
          go_upto_region 16 with (first
            | (refine wpl_build (t := 62) rfl rfl (v := .agg (echo15 ka kn kc none 0 0).cells.toArray) (by kernel_rfl) ?_)
            | (refine wpl_allocA rfl rfl zero58 s7 ?_; rintro U w8 s8)
            | (refine wpl_storeA (vs := (echo15 ka kn kc none 0 0).cells) rfl (.tmp 14) (.tmp 64) (by rfl) agg58 (by rfl) (by rfl) rfl (msg_one _) s8 rfl ?_; rintro w9 s9))
          have lq := lz.out (St.pick 4 s9)
          clear s8 l0 l1 l2 l3
          obtain ⟨l0, l1, l2, l3⟩ := LDM.out (St.pick 6 s9)
          cases hz1 : (z == 1) with
          | false =>
            have HBK : Hid (backL c F es = []) := hid (by unfold backL; rw [if_neg (by rw [HZ.out]; simpa using hz1)])
            have lU := run_loadG agg58 (vs := (echo15 ka kn kc none 0 0).cells) rfl s9.rowAll
            have sL := s9.alloc (LetV.cells ⟨p, echo15 ka kn kc none 0 0⟩).toArray 65
            go_wp2_with (refine wpl_build (t := 65) rfl rfl (v := .agg (LetV.cells ⟨p, echo15 ka kn kc none 0 0⟩).toArray) (by kernel_rfl) ?_)
            go_ret3
            exact HK14B.out F _ _ _ _ _ _ none 0 0 _ _ _ _ _ HF7.out (by rw [HBK.out]; exact (OwnS.none0 ((sL.perm [1, 6]).dropN 2)).perm [1, 1, 1, 0])
          | true =>
            have HBK : Hid (backL c F es = toldL F.r (c.getD 17 0) (es.map (·.key)) F.l) := hid (by unfold backL; rw [if_pos (by rw [HZ.out]; simpa using hz1)])
            have hn7 : n7 ≤ 4096 := by have h1 := HI7.out.hot.len; have h2 : F.l.length = n7 := tkC_ln (OwnS.rd (St.pick 3 s9)); have h3 := H14.out.2; omega
            have HN7 := hid hn7
            clear hn7
            go_wp2_with fail
            go_loopw [15, 74] (fun kk ii wr => ∃ (j : Nat) (ak : Option Addr) (nk ck : Nat), j ≤ en ∧ nk ≤ j ∧ kk = .slice ak nk ck ∧ ii = .int .i64 j ∧ St W wr (OwnS 1 ak nk ck (stC ((es.take j).map (·.key))) :: row U 0 (echo15 ka kn kc none 0 0).cells :: OwnS 9 na nn nc (enC F.news) :: OwnS 3 ka kn kc (mkC F.known) :: OwnS 4 a7 n7 c7 (tkC F.l) :: row b 0 (millC A.p c dp a7 n7 c7) :: RepA A F.r :: row T 0 m.cells :: R)) (fun _ ii _ => en - (intOf ii).toNat)
            case atStart => exact ⟨0, none, 0, 0, Nat.zero_le _, Nat.le_refl _, rfl, rfl, OwnS.none0 s9⟩
            case round =>
              obtain ⟨j, ak, nk, ck, hj, hnk, rfl, rfl, sw⟩ := hrel
              by_cases hlt2 : j < en
              · have hj2 : (j : Int) < (en : Int) := by omega
                have hmx := HEN2.out
                have hjL : j < es.length := by rw [HLE.out]; exact hlt2
                have rd := HE2.out _ (sw.dropN 8)
                obtain ⟨gb, go, rfl⟩ := rd.addr (by omega)
                have lk := run_loadG agg_en (b := gb) (o := go + j * 9) (vs := es[j].cells) rfl (fun _ _ hu => rd.at2 (enC_get hjL hu))
                have hst : (es.take (j + 1)).map (·.key) = (es.take j).map (·.key) ++ [es[j].key] := by rw [List.take_succ_eq_append_getElem hjL, List.map_append]; rfl
                obtain ⟨q, hq⟩ : ∃ q, es[j] = q := ⟨_, rfl⟩
                rw [hq] at lk hst
                have HST := hid hst
                have hb : (nk + 1) * 16 ≤ 140737488355328 := by omega
                have hbm : nk + 1 ≤ maxLen := by unfold maxLen; omega
                clear hq hst hjL rd
                go_wp2_with (first
                  | (refine wpl_allocA rfl rfl zero_en sw ?_; rintro E w4 s4)
                  | (refine wpl_storeA (vs := q.cells) rfl (.tmp 17) (.tmp 77) (by rfl) agg_en (by rfl) (by rfl) rfl (env_one q) s4 rfl ?_; rintro w5 s5
                     have lE : (loadG 9 (.pointer (some ⟨E, 0, none⟩))).run Tryz.prog w5 = .ok (.string q.key) w5 := run_ldP (by kernel_rfl) (by have := s5.rowCell (i := 0) (v := .string q.key) rfl; rwa [Nat.zero_add] at this)
                     have s6 := s5.alloc #[.string q.key] 9
                     have r6 := St.rowRd (sz := 1) (n := 1) s6 rfl (by decide) (by intro u hu; simp at hu; subst hu; rfl)
                     have sk := St.pick 2 s6)
                  | (at_builtin; refine wpl_append rfl (.tmp 78) (.tmp 81) rfl Tryz.elem128 rfl rfl sk r6 hb hbm ?_; rintro a8 c8 w8 s8))
                go_roundw
                case rel => exact ⟨j + 1, a8, nk + 1, c8, by omega, by omega, rfl, by go_num, by rw [HST.out, ← stC_more]; exact (s8.perm [1, 1]).dropN 2⟩
                case measure => simp [intOf]; omega
              · have hje : j = en := by omega
                subst hje
                rw [List.take_of_length_le (by rw [HLE.out]; exact Nat.le_refl _)] at sw
                go_wp2_with (first
                  | (go_at_call 42; refine told_c HC.out HN7.out HI7.out.ok (sw.perm [6, 4, 4, 0]) ?_; rintro ta tn tc wt st'
                     rw [← HBK.out] at st'
                     have sU := St.pick 5 st'
                     obtain ⟨_, _, cE, _, fE⟩ := msgP sU
                     have sV : St W (wt.setCell ⟨U, 11, none⟩ (.slice ta tn tc)) (row U 0 (echo15 ka kn kc ta tn tc).cells :: OwnS 9 ta tn tc (enC (backL c F es)) :: RepA A F.r :: OwnS 4 a7 n7 c7 (tkC F.l) :: row b 0 (millC A.p c dp a7 n7 c7) :: OwnS 1 ak nk ck (stC (es.map (·.key))) :: OwnS 9 na nn nc (enC F.news) :: OwnS 3 ka kn kc (mkC F.known) :: row T 0 m.cells :: R) := by
                       have := sU.rowSet (i := 11) (by simp [MsgV.cells]) (.slice ta tn tc)
                       rw [Nat.zero_add] at this
                       exact this
                     have lU := run_loadG agg58 (vs := (echo15 ka kn kc ta tn tc).cells) rfl sV.rowAll
                     have sL := sV.alloc (LetV.cells ⟨p, echo15 ka kn kc ta tn tc⟩).toArray 65
                     have hsz : (wt.setCell ⟨U, 11, none⟩ (.slice ta tn tc)).heap.size = wt.heap.size := by simp
                     rw [hsz] at sL)
                  | (refine wpl_build (t := 65) rfl rfl (v := .agg (LetV.cells ⟨p, echo15 ka kn kc ta tn tc⟩).toArray) (by kernel_rfl) ?_))
                go_ret3
                exact HK14B.out F _ _ _ _ _ _ _ _ _ _ _ _ _ _ HF7.out (((sL.perm [1, 5, 7]).dropN 3).perm [0, 4, 4, 0, 1, 1])
end
end Go.Proofs.YtojfjbbggpfijaaGreatDoor
