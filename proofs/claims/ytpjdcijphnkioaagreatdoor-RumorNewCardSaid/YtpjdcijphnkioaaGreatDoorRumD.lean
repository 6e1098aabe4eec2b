/- A mill with at most one rumor: echo, Take of an echo. -/
import Derived.Test.YtpjdcijphnkioaaGreatDoorRumC
namespace Go.Proofs.YtpjdcijphnkioaaGreatDoor
open Go.RowKit Go.Qd RepV

/-- An echo of one mark. -/
def echM (a : Option Addr) (q : Nat) : MsgV := { kindM 15 with ma := a, mn := 1, mq := q }
section
variable {W w : World} {R : List HP} {post : Ending → World → Prop} {c : List Int} {b dp : Nat} {A : RAd} {r : RepV}

set_option maxRecDepth 100000 in
set_option maxHeartbeats 8000000 in
theorem echo1_c {rp g o cp : Nat} {k : MkV} (hc : c.length = 20) (hx : c.getD 15 0 ≤ 1) (st : St W w (OwnS 4 (some ⟨g, o, none⟩) 1 cp (TkV.cells ⟨k, 0⟩) :: row b 0 (millC rp c dp (some ⟨g, o, none⟩) 1 cp) :: R))
    (K : ∀ w', St W w' (OwnS 4 (some ⟨g, o, none⟩) 0 cp [] :: row b 0 (millC rp c dp (some ⟨g, o, none⟩) 0 cp) :: R) → post (.returned (.tuple #[])) w') :
    Calls Tryz.prog 48 #[.pointer (some ⟨b, 0, none⟩), .agg k.cells.toArray] w post := by
  have HK := hid K; clear K
  have HC := hid hc; have HX := hid hx
  have s1 := st.alloc #[.pointer (some ⟨b, 0, none⟩)] 36
  have Hm : ∀ fn first cap w, (Instr.makeFunc fn first cap).run Tryz.prog w = .ok (.func fn first cap) w := fun _ _ _ _ => rfl
  clear hc hx
  go_enter Tryz.func48, Tryz.ntmps48
  go_wp2_with (first
    | (refine wpl_boxA (vs := k.cells) rfl (.tmp 1) rfl rfl s1 ?_; rintro T w2 s2'
       have s2 : St W w2 (OwnS 4 (some ⟨g, o, none⟩) 1 cp (TkV.cells ⟨k, 0⟩) :: row T 0 k.cells :: row w.heap.size 0 [.pointer (some ⟨b, 0, none⟩)] :: row b 0 (millC rp c dp (some ⟨g, o, none⟩) 1 cp) :: R) := s2'.pick 2
       have c0 := row1c (St.pick 2 s2)
       obtain ⟨k0, k1, k2, k3⟩ := mill_at HC.out (St.pick 3 s2))
    | (go_at_call 92; refine idxEcho_yes (echo1_is (x := ⟨k, 0⟩)) s2 ?_; rintro w3 s3
       have d0 := row1c (St.pick 2 s3)
       obtain ⟨j0, j1, j2, j3⟩ := mill_at HC.out (St.pick 3 s3)
       obtain ⟨f1, f2, s4'⟩ := ownSetC (i := 3) (v := .int .i64 1) s3 (by show 3 < 4; decide) rfl
       have f3 : w3.cell? ⟨g, o + 3, none⟩ = some (.int .i64 0) := f2
       clear f2
       have s4 : St W (w3.setCell ⟨g, o + 3, none⟩ (.int .i64 1)) (OwnS 4 (some ⟨g, o, none⟩) 1 cp (TkV.cells ⟨k, 1⟩) :: row T 0 k.cells :: row w.heap.size 0 [.pointer (some ⟨b, 0, none⟩)] :: row b 0 (millC rp c dp (some ⟨g, o, none⟩) 1 cp) :: R) := s4'
       clear s4'
       have e0 := row1c (St.pick 2 s4))
    | (go_at_call 42; refine keepDel_c (x := ⟨k, 1⟩) HC.out HX.out (s4.perm [0, 1, 1]) ?_; rintro w5 s5))
  go_end0
  exact HK.out _ ((s5.pick 2).drop)

set_option maxRecDepth 100000 in
set_option maxHeartbeats 4000000 in
theorem mmerge0_c {p : Value} (st : St W w R) (K : ∀ w', St W w' R → post (.returned (.tuple #[.slice none 0 0, .slice none 0 0, .int .i64 0])) w') :
    Calls Tryz.prog 49 #[p, .slice none 0 0] w post := by
  have HK := hid K; clear K
  go_enter Tryz.func49, Tryz.ntmps49
  go_wp2_with fail
  go_loopw [4, 5, 14] (fun oo kk ii wr => oo = .slice none 0 0 ∧ kk = .slice none 0 0 ∧ ii = .int .i64 0 ∧ St W wr R) (fun _ _ _ _ => 0)
  case atStart => exact ⟨rfl, rfl, rfl, st⟩
  case round =>
    obtain ⟨rfl, rfl, rfl, sr⟩ := hrel
    go_wp2_with fail
    go_ret3
    exact HK.out _ sr

/-- A message in its box. -/
theorem msg_ld {T : Nat} {m : MsgV} (s : St W w (row T 0 m.cells :: R)) : (loadG 80 (.pointer (some ⟨T, 0, none⟩))).run Tryz.prog w = .ok (.agg m.cells.toArray) w ∧ (loadG 3 (.pointer (some ⟨T, 0, none⟩))).run Tryz.prog w = .ok (.int .i64 m.kind) w ∧
    (loadG 73 (.pointer (some ⟨T, 11, none⟩))).run Tryz.prog w = .ok (.slice m.ea m.en m.eq) w ∧ (loadG 70 (.pointer (some ⟨T, 10, none⟩))).run Tryz.prog w = .ok (.slice m.ma m.mn m.mq) w := by
  obtain ⟨l0, l1, l2, l3, l4, l5, l6, l7, l8, l9⟩ := msgL s
  exact ⟨lg58 s, l0, l9, l8⟩
theorem good1_c {k : MkV} {a : Option Addr} {q : Nat} (hg : goodX (echM a q) 15 [k] [] = true) (hm : Rds W R 3 a 1 q (mkC [k])) (st : St W w R) (K : ∀ w', St W w' R → post (.returned (.int .i64 0)) w') :
    Calls Tryz.prog 47 #[.agg (echM a q).cells.toArray] w post :=
  goodx_c (m := echM a q) (ks := [k]) (es := []) (k := 15) (by decide) (by decide) rfl (fun _ _ => RdS.none0 _ _) (by show 0 ≤ 4096; decide) hm (by show 1 ≤ 4096; decide) (fun _ _ => RdS.none0 _ _) (by show 0 ≤ 4096; decide) st (fun w' s => by rw [if_pos hg]; exact K w' s)

/-- What is hot behind i rounds. -/
def hotI (k : MkV) : Nat → List Value
  | 0 => TkV.cells ⟨k, 0⟩
  | _ + 1 => []
section
attribute [local go_sem ↓] execOp_ldAny
set_option maxRecDepth 100000 in
set_option maxHeartbeats 8000000 in
theorem takeEcho_c {p : Int} {g o cp q : Nat} {ma : Option Addr} {k : MkV} (hc : c.length = 20) (h0 : 0 ≤ p) (h1 : p < c.getD 0 0) (h2 : p ≠ r.site) (hx : c.getD 15 0 ≤ 1) (hg : goodX (echM ma q) 15 [k] [] = true)
    (st : St W w (OwnS 4 (some ⟨g, o, none⟩) 1 cp (TkV.cells ⟨k, 0⟩) :: row b 0 (millC A.p c dp (some ⟨g, o, none⟩) 1 cp) :: RepA A r :: OwnS 3 ma 1 q (mkC [k]) :: R))
    (K : ∀ w', St W w' (row b 0 (millC A.p c dp (some ⟨g, o, none⟩) 0 cp) :: R) → post (.returned (.tuple #[.slice none 0 0, .slice none 0 0, .int .i64 0])) w') :
    Calls Tryz.prog 18 #[.pointer (some ⟨b, 0, none⟩), .int .i64 p, .agg (echM ma q).cells.toArray] w post := by
  have HK := hid K; clear K
  have HC := hid hc; have H0 := hid h0; have H1 := hid h1; have H2 := hid h2; have HG := hid hg; have HX := hid hx
  obtain ⟨mb, mo, rfl⟩ := (OwnS.rd (St.pick 3 st)).addr (by decide)
  clear hc h0 h1 h2 hg hx
  go_enter Tryz.func18, Tryz.ntmps18
  go_wp2_with (first
    | (refine wpl_boxA (vs := (echM (some ⟨mb, mo, none⟩) q).cells) rfl (.tmp 2) rfl rfl st ?_; rintro T w1 s1'; have s1 : St W w1 (OwnS 3 (some ⟨mb, mo, none⟩) 1 q (mkC [k]) :: row T 0 (echM (some ⟨mb, mo, none⟩) q).cells :: OwnS 4 (some ⟨g, o, none⟩) 1 cp (TkV.cells ⟨k, 0⟩) :: row b 0 (millC A.p c dp (some ⟨g, o, none⟩) 1 cp) :: RepA A r :: R) := s1'.pick 4; obtain ⟨l0, l1, l2, l3⟩ := msg_ld (St.pick 1 s1); simp only [echM, kindM] at l1 l2 l3)
    | (go_at_call 46; refine mnode_yes HC.out H0.out H1.out H2.out (s1.perm [3, 3]) ?_)
    | (go_at_call 47; refine good1_c HG.out OwnS.rds s1 ?_; rintro w2 s2; clear l0 l1 l2 l3; obtain ⟨m0, m1, m2, m3⟩ := msg_ld (St.pick 1 s2); simp only [echM, kindM] at m1 m2 m3))
  go_loopw [40] (fun ii wr => ∃ i : Nat, i ≤ 1 ∧ ii = .int .i64 i ∧ Hid (i = 0 → wr = w2) ∧ St W wr (OwnS 4 (some ⟨g, o, none⟩) (1 - i) cp (hotI k i) :: row b 0 (millC A.p c dp (some ⟨g, o, none⟩) (1 - i) cp) :: row T 0 (echM (some ⟨mb, mo, none⟩) q).cells :: OwnS 3 (some ⟨mb, mo, none⟩) 1 q (mkC [k]) :: RepA A r :: R)) (fun ii _ => 1 - (intOf ii).toNat)
  case atStart => exact ⟨0, by decide, rfl, hid (fun _ => rfl), s2.perm [2, 2, 1, 0]⟩
  case round =>
    obtain ⟨i, hi, rfl, hw, sr⟩ := hrel
    have h01 : i = 0 ∨ i = 1 := by omega
    clear hi
    rcases h01 with rfl | rfl
    · have hwr := hw.out rfl
      subst hwr
      clear hw
      have sr0 : St W wr (OwnS 4 (some ⟨g, o, none⟩) 1 cp (TkV.cells ⟨k, 0⟩) :: row b 0 (millC A.p c dp (some ⟨g, o, none⟩) 1 cp) :: row T 0 (echM (some ⟨mb, mo, none⟩) q).cells :: OwnS 3 (some ⟨mb, mo, none⟩) 1 q (mkC [k]) :: RepA A r :: R) := sr
      have lk := run_loadG agg54 (vs := k.cells) rfl (fun j u hu => (OwnS.rd (St.pick 3 sr0)).at (show (mkC [k])[j]? = some u by simpa [mkC] using hu))
      go_wp2_with (first
        | (refine wpl_allocA (vs := [.int .i64 0, .int .i64 0, .string ByteArray.empty]) rfl rfl (fun _ => by kernel_rfl) sr0 ?_; rintro E w4 s4)
        | (refine wpl_storeA (vs := k.cells) rfl (.tmp 10) (.tmp 43) (by rfl) agg54 (by rfl) (by rfl) rfl (mk_one k) s4 rfl ?_; rintro w5 s5; have lE := run_loadG agg54 (vs := k.cells) rfl s5.rowAll)
        | (go_at_call 48; refine echo1_c HC.out HX.out (s5.perm [1, 1]) ?_; rintro w6 s6))
      go_roundw
      case rel => exact ⟨1, by decide, by go_num, hid (fun h => by cases h), (s6.pick 2).drop⟩
      case measure => simp [intOf]
    · clear hw
      obtain ⟨n0, n1, n2, n3⟩ := msg_ld (St.pick 2 sr)
      simp only [echM, kindM] at n1 n2 n3
      go_wp2_with (go_at_call 49; refine mmerge0_c sr ?_; rintro w7 s7; clear n0 n1 n2 n3; obtain ⟨n0, n1, n2, n3⟩ := msg_ld (St.pick 2 s7); simp only [echM, kindM] at n1 n2 n3)
      go_ret3
      exact HK.out _ ((((((s7.drop).pick 1).drop).pick 1).drop.pick 1).drop)
end
end
end Go.Proofs.YtpjdcijphnkioaaGreatDoor
