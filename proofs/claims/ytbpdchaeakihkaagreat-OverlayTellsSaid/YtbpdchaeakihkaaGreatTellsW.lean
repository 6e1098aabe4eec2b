/- OverlayTells: the walk. Printed by mkTellsW.py. -/
import Derived.Test.YtbpdchaeakihkaaGreatBeatX
import Derived.Test.YtbpdchaeakihkaaGreatLetT
import Derived.Test.YtbpdchaeakihkaaGreatRGoodN
import Derived.Test.YtbpdchaeakihkaaGreatTellM
import Derived.Test.YtbpdchaeakihkaaGreatKnownL
import Derived.Deep.RegionHeld3
namespace Go.Proofs.YtbpdchaeakihkaaGreat
open Go.RowKit Go.Qd

theorem agg83 : AggT Tryz.prog 83 12 := ⟨⟨_, Tryz.underlying83, rfl⟩, by kernel_rfl⟩
theorem zero83 (w : World) : (zeroValue 83).run Tryz.prog w = .ok (.agg (bits []).toArray) w := by kernel_rfl
def b83G : Sem Value := Instr.build 83 #[]
theorem execOp_b83 (ρ : Operand → Value) (dst : Option Tmp) (ty : TypeId) (pos : String) (after : Array Edge) (guard : Option (Nat × Bool)) :
    execOp ρ { dst, op := .build 83 #[], type := ty, pos, after, guard } = (do pure (.value (← b83G))) := by simp [execOp, b83G]
theorem run_b83 (w : World) : b83G.run Tryz.prog w = .ok (.agg (bits []).toArray) w := by kernel_rfl
theorem zero85 (w : World) : (zeroValue 85).run Tryz.prog w = .ok (.agg #[.int .i64 0, .bool false]) w := by kernel_rfl
theorem execOp_ldLT (ρ : Operand → Value) (dst : Option Tmp) (a : Operand) (ty : TypeId) (pos : String) (after : Array Edge) (guard : Option (Nat × Bool)) :
    execOp ρ { dst, op := .load 89 a, type := ty, pos, after, guard } = (do pure (.value (← loadG 89 (ρ a)))) := rfl
theorem execOp_ldRM (ρ : Operand → Value) (dst : Option Tmp) (a : Operand) (ty : TypeId) (pos : String) (after : Array Edge) (guard : Option (Nat × Bool)) :
    execOp ρ { dst, op := .load 75 a, type := ty, pos, after, guard } = (do pure (.value (← loadG 75 (ρ a)))) := rfl
theorem chC_get {C : List (Int × Bool)} {i : Nat} (h : i < C.length) : (chC C)[i * 2]? = some (.int .i64 C[i].1) ∧ (chC C)[i * 2 + 1]? = some (.bool C[i].2) := by
  induction C generalizing i with
  | nil => cases h
  | cons x C ih =>
    cases i with
    | zero => exact ⟨rfl, rfl⟩
    | succ i =>
      have := ih (i := i) (by simpa using h)
      have e : chC (x :: C) = .int .i64 x.1 :: .bool x.2 :: chC C := rfl
      rw [e, show (i + 1) * 2 = i * 2 + 1 + 1 from by omega, show i * 2 + 1 + 1 + 1 = (i * 2 + 1) + 1 + 1 from rfl]
      exact this
theorem chLd {w : World} {b o n c i : Nat} {C : List (Int × Bool)} (rd : RdS w 2 (some ⟨b, o, none⟩) n c (chC C)) (hi : i < C.length) :
    (loadG 85 (.pointer (some ⟨b, o + i * 2, none⟩))).run Tryz.prog w = .ok (.agg #[.int .i64 C[i].1, .bool C[i].2]) w := run_loadG agg85 (vs := [.int .i64 C[i].1, .bool C[i].2]) rfl (fun j u hu => by
  obtain ⟨g0, g1⟩ := chC_get hi
  match j, hu with
  | 0, hu => cases hu; exact rd.at2 (j := 0) g0
  | 1, hu => cases hu; exact rd.at2 (j := 1) g1)
theorem ch_one (p : Int) (u : Bool) : ∀ v ∈ [Value.int .i64 p, .bool u], v.oneCell' = true := by
  intro v hv
  simp only [List.mem_cons, List.not_mem_nil, or_false] at hv
  rcases hv with rfl | rfl <;> rfl
theorem letPT {W w : World} {R : List HP} {P : Nat} {x : LetV} (s : St W w (row P 0 x.cells :: R)) : w.cell? ⟨P, 0, none⟩ = some (.int .i64 x.to) ∧ (loadG 75 (.pointer (some ⟨P, 1, none⟩))).run Tryz.prog w = .ok (.agg x.m.cells.toArray) w := by
  have c0 := s.rowCell (i := 0) (v := .int .i64 x.to) rfl
  exact ⟨c0, run_loadG (o := 0 + 1) aggRM rfl (St.rowPart s 1 (xs := x.m.cells) (ys := []) (by rw [List.append_nil]; rfl))⟩
theorem tC_cell {W w : World} {R : List HP} {E k : Nat} {g : Int → Bool} (s : St W w (row E 0 (tC g) :: R)) (h : k < 12) : w.cell? ⟨E, k, none⟩ = some (.bool (g (k : Int))) ∧ w.frozen? ⟨E, k, none⟩ = false := by
  have c := s.rowCell (tC_get (f := g) h)
  have f := St.rowFree s (i := k) (by rw [tC_len]; exact h)
  rw [Nat.zero_add] at c f
  exact ⟨c, f⟩
theorem tellS {W w : World} {R : List HP} {b v E T : Nat} {A c : List Int} (hc : c.length = 20) (s : St W w (row b 0 [.pointer (some ⟨v, 0, none⟩)] :: row E 0 (bits A) :: row T 0 (ivs c) :: R)) :
    w.cell? ⟨b, 0, none⟩ = some (.pointer (some ⟨v, 0, none⟩)) ∧ w.rangeAt E 0 (bits A) ∧ w.cell? ⟨T, 5, none⟩ = some (.int .i64 (c.getD 5 0)) ∧ w.cell? ⟨T, 6, none⟩ = some (.int .i64 (c.getD 6 0)) :=
  ⟨row1c s, fun _ _ h => (St.pick 1 s).rowCell h, cfg_at (St.pick 2 s) (by omega), cfg_at (St.pick 2 s) (by omega)⟩
theorem LX.bound {c : List Int} {me : Int} {k : Nat} {O : OV} (h : LX c me k O) : (O.V.a.length : Int) ≤ c.getD 5 0 ∧ (O.V.p.length : Int) ≤ c.getD 6 0 := ⟨by rw [← h.am]; exact h.li.wk.ok.v.la, by rw [← h.pm]; exact h.li.wk.ok.v.lp⟩
theorem known_ok {c : List Int} {me : Int} {k : Nat} {O : OV} (h : LX c me k O) : ∀ x ∈ knownL O.V, 0 ≤ x ∧ x < c.getD 0 0 ∧ x ≠ me := fun x hx => by
  have g : onodeB O x = true := by
    rcases mem_knownL.1 hx with g | g
    · exact h.li.wk.n.1 x g
    · exact h.li.wk.n.2 x g
  have := onode_iff.1 g
  rw [h.li.cf, h.li.sl] at this
  exact this

section
variable {W w : World} {post : Ending → World → Prop}
attribute [local go_sem ↓] execOp_load23 execOp_load77 execOp_load85 execOp_ldLT execOp_ldRM execOp_b83
attribute [local go_sem] run_b83

set_option maxRecDepth 100000 in
set_option maxHeartbeats 16000000 in
theorem overlayTells_c {self : Int} {c : List Int} {da la : Option Addr} {dn dc ln lc : Nat} {draws : List Int} {l : List OAct} (hc : c.length = 20) (hd : RdS W 1 da dn dc (ivs draws)) (hl : RdS W 14 la ln lc (oactC l)) (hr : ∀ x ∈ l, x.m.reads W x.ks x.es)
    (K : ∀ W2, Below W.heap.size W W2 → post (.returned (.bool true)) W2) :
    Calls Tryz.prog 7 #[.int .i64 self, .agg (ivs c).toArray, .slice da dn dc, .slice la ln lc] W post := by
  have HK := hid K; clear K
  have HC := hid hc
  have HL0 : Hid (0 < c.length) := hid (by omega)
  have HD := hid hd; have HLR := hid hl; have HRD := hid hr
  obtain ⟨rb, hrb⟩ : ∃ rb, rightB c = rb := ⟨_, rfl⟩
  have HR := hid hrb
  obtain ⟨nn, hnn⟩ : ∃ nn, c.getD 0 0 = nn := ⟨_, rfl⟩
  have HNN := hid hnn
  have HLN : Hid (l.length = ln) := hid (oactC_ln hl)
  have st := St.init W
  clear hd hl hr hc
  by_cases hq : rb = true ∧ 0 ≤ self ∧ self < nn
  · obtain ⟨rfl, hp1, hp2⟩ := hq
    have HRT := hid hrb
    have HLI0 : Hid (LX c self 0 (newO c self draws)) := hid (LX.new HC.out hrb ⟨hp1, by rw [hnn]; exact hp2⟩)
    have k1 : decide (self < 0) = false := decide_eq_false (by omega)
    have k2 : decide (nn ≤ self) = false := decide_eq_false (by omega)
    have HSF : Hid (0 ≤ self ∧ self < c.getD 0 0) := hid ⟨hp1, by rw [hnn]; exact hp2⟩
    clear hrb hnn hp1 hp2
    go_enter Tryz.func7, Tryz.ntmps7
    go_wp2_with (first
      | (replace st := hid st; refine wpl_boxA (vs := ivs c) rfl (.tmp 1) rfl rfl st.out ?_; rintro T w1 s1; clear st)
      | (go_at_call 10; first
          | (refine speaks_c s3 ?_; rintro w9 s9)
          | (refine speaks_c s1 ?_; rintro w2 s2))
      | (go_at_call 23; refine few17_c s2 (HLR.out.rds _) HRD.out ?_; rintro w3 fb s3 hfb; have HFB := hid hfb; clear hfb; have l3 := ldC HC.out s3)
      | (go_at_call 11; refine right_c s3 HC.out ?_; rintro w4 s4; rw [HR.out]; have l4 := ldC HC.out s4; have c0 := cfg_at s4 HL0.out; rw [HNN.out] at c0)
      | (go_at_call 14; refine new_c (zs := draws) s5 (HD.out.st s5) (by have hfb2 := HFB.out (by assumption); omega) ?_; rintro d w6 s6)
      | (go_at_call 13; refine of_c s4 HC.out ?_; rintro w5 s5)
      | (go_at_call 12; refine onew_c s6 HC.out HRT.out HSF.out ?_; rintro b w7 s7; have u0 := s7.sel [0, 1])
      | (refine wpl_allocA rfl rfl zero83 u0 ?_; rintro E wE sE)
      | (refine wpl_storeA (vs := bits []) rfl (.tmp 11) (.tmp 63) (by rfl) agg83 (by rfl) (by rfl) (bits_len _) (bits_one _) sE (bits_len _) ?_; rintro wF sF))
    · have HFW := hid (HFB.out (by assumption))
      have u : St W wF [OvA b d (newO c self draws), row E 0 (bits []), row T 0 (ivs c)] := sF.perm [1]
      have hln60 : ln ≤ 60 := HFW.out.1
      clear s1 s2 s3 s4 s5 s6 s7 u0 sE sF l3 l4 c0 HFB
      go_loopw [66] (fun ii wr => ∃ (i : Nat) (O : OV), i ≤ ln ∧ ii = .int .i64 i ∧ Hid (LX c self i O) ∧ St W wr [OvA b d O, row E 0 (bits O.V.a), row T 0 (ivs c)]) (fun ii _ => ln - (intOf ii).toNat)
      case atStart => exact ⟨0, _, Nat.zero_le _, rfl, HLI0, u⟩
      case round =>
        obtain ⟨i, O, hi, rfl, HLI, sr⟩ := hrel
        by_cases hlt : i < ln
        · have hi2 : (i : Int) < (ln : Int) := by omega
          have rd := HLR.out.st sr
          obtain ⟨g3, o3, rfl⟩ := rd.addr (by omega)
          have hiA : i < l.length := by rw [HLN.out]; exact hlt
          have ci := oactLd rd hiA
          have hq0 := HRD.out _ (List.getElem_mem hiA)
          have hf0 := HFW.out.2.2 _ (List.getElem_mem hiA)
          obtain ⟨q, hq⟩ : ∃ q, l[i] = q := ⟨_, rfl⟩
          rw [hq] at ci hq0 hf0
          have HQ := hid hq0; have HFQ := hid hf0
          have HPL := hid (reads_len hq0)
          have HSK := hid (HLI.out.li.sok (by omega))
          clear hq rd hiA hq0 hf0
          go_wp2_with (first
            | (refine wpl_allocA rfl rfl zero_oact sr ?_; rintro P w8 s8)
            | (refine wpl_storeA (vs := q.cells) rfl (.tmp 13) (.tmp 69) (by rfl) agg_oact (by rfl) (by rfl) rfl (oact_one q) s8 rfl ?_; rintro w9 s9
               have lq : (loadG 77 (.pointer (some ⟨P, 0, none⟩))).run Tryz.prog w9 = .ok (.agg q.cells.toArray) w9 := run_loadG (o := 0) agg_oact rfl s9.rowAll)
            | (go_at_call 24; refine run_c (x := q) (St.pick 1 s9) HSK.out.1 HSK.out.2.1 HSK.out.2.2 HQ.out HFQ.out ?_; rintro X e xa xn xc ya yn yc wB hst sB
               have HX := hid (HLI.out.step HSF.out HPL.out hst)
               have HT := hid (HLI.out.told HSF.out HPL.out hst)
               clear hst))
          obtain ⟨f0, hf0⟩ : ∃ f0, memB O.V.a = f0 := ⟨_, rfl⟩
          have sC : St W wB [row E 0 (tC (memB O.V.a)), OwnS 2 ya yn yc (chC X.C), OvA b d (freshO X), OwnS 13 xa xn xc (letC X.L), sepL (X.L.map LetV.own), row T 0 (ivs c)] := sB.sel [5, 2, 0, 0, 0, 1]
          obtain ⟨C, hC⟩ : ∃ C, X.C = C := ⟨_, rfl⟩
          obtain ⟨L, hL⟩ : ∃ L, X.L = L := ⟨_, rfl⟩
          rw [hf0, hC, hL] at sC
          have HTI : Hid (AltC f0 C ∧ ∀ q, updT f0 C q = memB (freshO X).V.a q) := hid (by have := HT.out.1; rw [hf0] at this; exact ⟨hC ▸ this.a, fun q => hC ▸ this.e q⟩)
          have HLT : Hid ((∀ x ∈ L, (0 ≤ x.to ∧ x.to < nn ∧ x.to ≠ self) ∧ MsgOK x.m) ∧ L.length ≤ 20) := hid (by
            obtain ⟨_, h2, h3, h4, h5⟩ := HT.out
            rw [hL] at h3
            refine ⟨fun x hx => ?_, h3⟩
            have := h2 x (by rw [hL]; exact hx)
            have h6 := onode_iff.1 this.1
            rw [h4, h5, HNN.out] at h6
            exact ⟨h6, this.2⟩)
          have HCN : Hid (C.length = yn) := hid (by have := (OwnS.rd (St.pick 1 sC)).len; rw [chC_size] at this; omega)
          have HLN2 : Hid (L.length = xn) := hid (by have := (OwnS.rd (St.pick 3 sC)).len; rw [letC_size] at this; omega)
          have bigC := (OwnS.rd (St.pick 1 sC)).big
          clear HT hf0 hC hL sB s9 s8 sr
          go_wp2_with fail
          go_loopw [79] (fun jj wx => ∃ j : Nat, j ≤ yn ∧ jj = .int .i64 j ∧ St W wx [row E 0 (tC (updT f0 (C.take j))), OwnS 2 ya yn yc (chC C), OvA b d (freshO X), OwnS 13 xa xn xc (letC L), sepL (L.map LetV.own), row T 0 (ivs c)]) (fun jj _ => yn - (intOf jj).toNat)
          case atStart => exact ⟨0, Nat.zero_le _, rfl, sC⟩
          case round =>
            clear sC
            obtain ⟨j, hj, rfl, sj⟩ := hrel
            by_cases hjl : j < yn
            · have hj2 : (j : Int) < (yn : Int) := by omega
              have rdc := OwnS.rd (St.pick 1 sj)
              obtain ⟨g7, o7, rfl⟩ := rdc.addr (by omega)
              have hjC : j < C.length := by rw [HCN.out]; exact hjl
              have cj := chLd rdc hjC
              have hal := HTI.out.1 j hjC
              have hst := updT_take (T := f0) hjC
              obtain ⟨x, hx⟩ : ∃ x, C[j] = x := ⟨_, rfl⟩
              rw [hx] at cj hal hst
              obtain ⟨p, up⟩ := x
              obtain ⟨g, hg⟩ : ∃ g, updT f0 (C.take j) = g := ⟨_, rfl⟩
              rw [hg] at hal hst sj
              obtain ⟨hb, hp0, hp12⟩ := hal
              obtain ⟨k, rfl⟩ := Int.eq_ofNat_of_zero_le hp0
              have hk : k < 12 := by have : (k : Int) < 12 := hp12; omega
              have hgk : g (k : Int) = !up := by
                have : g (k : Int) ≠ up := hb
                cases h1 : g (k : Int) <;> cases up <;> simp_all
              have HST := hid hst; have HGK := hid hgk
              have hkz : (0 : Int) ≤ (k : Int) := by omega
              have hkt : (k : Int) < 12 := by omega
              have hk11 : decide ((11 : Int) < (k : Int)) = false := decide_eq_false (by omega)
              clear hx hg hb hp0 hp12 hst hgk rdc hjC
              have CJ : (loadG 85 (.pointer (some ⟨g7, o7 + j * 2, none⟩))).run Tryz.prog _ = .ok (.agg #[.int .i64 (k : Int), .bool up]) _ := cj
              clear cj
              go_wp2_with (first
                | (refine wpl_allocA rfl rfl zero85 sj ?_; rintro Q w2 s2)
                | (refine wpl_storeA (vs := [.int .i64 (k : Int), .bool up]) rfl (.tmp 18) (.tmp 82) (by rfl) agg85 (by rfl) (by rfl) rfl (ch_one _ _) s2 rfl ?_; rintro w3 s3; obtain ⟨d0, d1, _, _⟩ := boxQ s3; rw [Nat.zero_add] at d1; obtain ⟨e0, e1⟩ := tC_cell (St.pick 1 s3) hk; rw [HGK.out] at e0))
              cases up with
              | true =>
                have s4 := s3.drew
                obtain ⟨m0, m1, _, _⟩ := boxQ s4
                rw [Nat.zero_add] at m1
                obtain ⟨n0, n1⟩ := tC_cell (St.pick 1 s4) hk
                rw [HGK.out] at n0
                go_region_held3 (fun w' => w'.cell? ⟨Q, 0, none⟩ = some (.int .i64 (k : Int)) ∧ w'.cell? ⟨Q, 1, none⟩ = some (.bool true) ∧ w'.cell? ⟨E, k, none⟩ = some (.bool (!true))) (exact ⟨m0, m1, n0⟩) (fail)
                go_wp2_with fail
                go_roundw
                case rel => exact ⟨j + 1, by omega, by go_num, by
                  rw [HST.out, ← tC_set]
                  have := (St.pick 1 s4).rowSet (i := k) (by rw [tC_len]; exact hk) (.bool true)
                  rw [Nat.zero_add] at this
                  exact this.sel [0, 1, 1, 1, 1, 1]⟩
                case measure => simp [intOf]; omega
              | false =>
                have s4 := s3.drew
                obtain ⟨m0, m1, _, _⟩ := boxQ s4
                rw [Nat.zero_add] at m1
                obtain ⟨n0, n1⟩ := tC_cell (St.pick 1 s4) hk
                rw [HGK.out] at n0
                go_region_held3 (fun w' => w'.cell? ⟨Q, 0, none⟩ = some (.int .i64 (k : Int)) ∧ w'.cell? ⟨Q, 1, none⟩ = some (.bool false) ∧ w'.cell? ⟨E, k, none⟩ = some (.bool (!false))) (exact ⟨m0, m1, n0⟩) (fail)
                go_wp2_with fail
                go_roundw
                case rel => exact ⟨j + 1, by omega, by go_num, by
                  rw [HST.out, ← tC_set]
                  have := (St.pick 1 s4).rowSet (i := k) (by rw [tC_len]; exact hk) (.bool false)
                  rw [Nat.zero_add] at this
                  exact this.sel [0, 1, 1, 1, 1, 1]⟩
                case measure => simp [intOf]; omega
            · have hje : yn = j := by omega
              subst hje
              rw [List.take_of_length_le (by rw [HCN.out]; exact Nat.le_refl _), tC_bits HTI.out.2] at sj
              have hxn20 : xn ≤ 20 := by have := HLT.out.2; have := HLN2.out; omega
              go_wp2_with (go_at_call 27; refine letters_c (St.pick 3 sj) (fun x hx => ⟨(HLT.out.1 x hx).2.z.2.2.2.2.2.1, (HLT.out.1 x hx).2.z.2.2.2.2.2.2⟩) (Nat.le_trans HLT.out.2 (by decide)) ?_; rintro a5 c5 w5 s5)
              have s6 : St W w5 [OwnS 13 a5 xn c5 (letC (L.map LetV.bare)), row E 0 (bits (freshO X).V.a), OvA b d (freshO X), sepL (L.map LetV.own), row T 0 (ivs c)] := s5.sel [0, 1, 2, 2, 2]
              clear sj s5
              go_loopw [109] (fun rr wx => ∃ r : Nat, r ≤ xn ∧ rr = .int .i64 r ∧ St W wx [OwnS 13 a5 xn c5 (letC (L.map LetV.bare)), row E 0 (bits (freshO X).V.a), OvA b d (freshO X), sepL (L.map LetV.own), row T 0 (ivs c)]) (fun rr _ => xn - (intOf rr).toNat)
              case atStart => exact ⟨0, Nat.zero_le _, rfl, s6⟩
              case round =>
                clear s6
                obtain ⟨r, hr, rfl, sr⟩ := hrel
                by_cases hrl : r < xn
                · have hr2 : (r : Int) < (xn : Int) := by omega
                  have rdl := OwnS.rd sr
                  obtain ⟨g8, o8, rfl⟩ := rdl.addr (by omega)
                  have hrA : r < L.length := by rw [HLN2.out]; exact hrl
                  have hrM : r < (L.map LetV.bare).length := by rw [List.length_map]; exact hrA
                  have cr := letLd aggLT rdl hrM
                  rw [List.getElem_map] at cr
                  have hx1 := HLT.out.1 _ (List.getElem_mem hrA)
                  have how : ∀ w, St W w [OwnS 13 (some ⟨g8, o8, none⟩) xn c5 (letC (L.map LetV.bare)), row E 0 (bits (freshO X).V.a), OvA b d (freshO X), sepL (L.map LetV.own), row T 0 (ivs c)] → RdS w 1 L[r].m.pa L[r].m.pn L[r].m.pc (ivs L[r].m.ps) := fun w s => own_at (St.pick 3 s) hrA
                  obtain ⟨x, hx⟩ : ∃ x, L[r] = x := ⟨_, rfl⟩
                  simp only [hx] at cr hx1 how
                  obtain ⟨⟨t0, t1, t2⟩, hmo⟩ := hx1
                  have HOW := hid how; have HMO := hid (bare_ok hmo)
                  have HPN : Hid (x.m.ps.length = x.m.pn) := hid (ivs_len (how _ sr))
                  have i0 : decide (x.to < 0) = false := decide_eq_false (by omega)
                  have i1 : decide (nn ≤ x.to) = false := decide_eq_false (by omega)
                  have i2 : (x.to == self) = false := by simpa using t2
                  clear hx rdl hrA hrM t0 t1 t2 hmo how
                  go_wp2_with (first
                    | (refine wpl_allocA rfl rfl zeroLT sr ?_; rintro Q w2 s2)
                    | (refine wpl_storeA (vs := x.bare.cells) rfl (.tmp 20) (.tmp 112) (by rfl) aggLT (by rfl) (by rfl) rfl (let_one _) s2 rfl ?_; rintro w3 s3; obtain ⟨d0', d1'⟩ := letPT s3; have d0 : w3.cell? ⟨Q, 0, none⟩ = some (.int .i64 x.to) := d0'; have d1 : (loadG 75 (.pointer (some ⟨Q, 1, none⟩))).run Tryz.prog w3 = .ok (.agg x.m.bare2.cells.toArray) w3 := d1'; clear d0' d1'; have c0 := cfg_at (St.pick 5 s3) HL0.out; rw [HNN.out] at c0)
                    | (go_at_call 28; refine rgoodL_c (m := x.m.bare2) HMO.out HPN.out (fun w s => HOW.out w s.drop) s3 ?_; rintro w4 s4))
                  go_roundw
                  case rel => exact ⟨r + 1, by omega, by go_num, s4.drop⟩
                  case measure => simp [intOf]; omega
                · have hre : xn = r := by omega
                  subst hre
                  have hbd := HX.out.bound
                  have HKO := hid (known_ok HX.out)
                  have HVK := hid HX.out.li.wk.ok.v
                  obtain ⟨V, hV⟩ : ∃ V, (freshO X).V = V := ⟨_, rfl⟩
                  obtain ⟨v, sO⟩ := OvA.open (sr.sel [2, 1, 2])
                  have sP : St W _ [row b 0 [.pointer (some ⟨v, 0, none⟩)], row E 0 (bits (freshO X).V.a), row T 0 (ivs c), ViewsA v (freshO X).V, NewsA b 1 (freshO X).L (freshO X).C, row b 3 (ivs (freshO X).cfg), row b 23 [.pointer (some ⟨d, 0, none⟩)], row b 24 (ivs (freshO X).heard), row b 36 [.int .i64 (freshO X).ticks, .int .i64 (freshO X).asked, .int .i64 (freshO X).since], DiceA d (freshO X).D] := sO.perm [0, 7, 7, 5]
                  have hv3 := HX.out.li.wk.ok.v.na4; have hv4 := HX.out.li.wk.ok.v.np4
                  have hm1 := HX.out.li.wk.ok.v.am; have hm2 := HX.out.li.wk.ok.v.pm
                  have hm3 := HX.out.li.wk.ok.v.la; have hm4 := HX.out.li.wk.ok.v.lp
                  have HV := hid hV
                  rw [hV] at hbd HKO HVK sP hv3 hv4 hm1 hm2 hm3 hm4
                  obtain ⟨n5, h5⟩ : ∃ n5, c.getD 5 0 = n5 := ⟨_, rfl⟩
                  obtain ⟨n6, h6⟩ : ∃ n6, c.getD 6 0 = n6 := ⟨_, rfl⟩
                  have H5 := hid h5; have H6 := hid h6
                  rw [h5, h6] at hbd
                  obtain ⟨na, hna⟩ : ∃ na, V.a.length = na := ⟨_, rfl⟩
                  obtain ⟨np, hnp⟩ : ∃ np, V.p.length = np := ⟨_, rfl⟩
                  have HNA := hid hna; have HNP := hid hnp
                  rw [hna] at hbd hv3 hm3
                  rw [hnp] at hbd hv4 hm4
                  have b5 : decide (n5 < (na : Int)) = false := decide_eq_false (by omega)
                  have b6 : decide (n6 < (np : Int)) = false := decide_eq_false (by omega)
                  have HAA : Hid (V.a.length ≤ 4096 ∧ V.p.length ≤ 4096) := hid ⟨by omega, by omega⟩
                  have hnp2 : na ≤ 11 ∧ np ≤ 11 := ⟨by omega, by omega⟩
                  have HAS : Hid (V.a.Pairwise (· < ·) ∧ ∀ x ∈ V.a, nodeB x = true) := hid ⟨HVK.out.sa, fun x hx => (HVK.out.na x hx).1⟩
                  clear hbd hv3 hv4 hm1 hm2 hm3 hm4 hV h5 h6 hna hnp sO
                  have u := sP.drew
                  have gA := tellS HC.out u
                  rw [H5.out, H6.out] at gA
                  go_wp2_with fail
                  have hu := Tryz.underlying83
                  have hi12 : (Tryz.prog.info? 83).map (·.size) = some (bits V.a).length := by rw [bits_len]; exact agg83.size
                  have hl12 := bits_len V.a
                  go_region_held3 (fun w' => w'.cell? ⟨b, 0, none⟩ = some (.pointer (some ⟨v, 0, none⟩)) ∧ w'.rangeAt E 0 (bits V.a) ∧ w'.cell? ⟨T, 5, none⟩ = some (.int .i64 n5) ∧ w'.cell? ⟨T, 6, none⟩ = some (.int .i64 n6))
                    (first
                      | with_reducible exact gF
                      | with_reducible exact gE
                      | with_reducible exact gD
                      | with_reducible exact gC
                      | with_reducible exact gB
                      | with_reducible exact gA)
                    (first
                      | (go_at_call 16; first
                          | (refine active_c (St.pick 2 y3) HAA.out.1 ?_; rw [HNA.out]; rintro a4 c4 w4 y4; have gE := tellS HC.out (y4.perm [4, 4, 4]); rw [H5.out, H6.out] at gE)
                          | (refine active_c (St.pick 3 u) HAA.out.1 ?_; rw [HNA.out]; rintro a1 c1 w1 y1; have gB := tellS HC.out (y1.perm [2, 2, 2]); rw [H5.out, H6.out] at gB))
                      | (go_at_call 29; refine list_c y1 HAS.out.1 HAS.out.2 ?_; rw [HNA.out]; rintro a2 c2 w2 y2; have gC := tellS HC.out (y2.perm [3, 3, 3]); rw [H5.out, H6.out] at gC)
                      | (go_at_call 26; refine same_c (OwnS.rd (St.pick 1 y2)) (OwnS.rd y2) ?_; intro kk; rw [decide_eq_true (rfl : V.a = V.a)]; have y3 := y2.drewN kk; have gD := tellS HC.out (y3.perm [3, 3, 3]); rw [H5.out, H6.out] at gD)
                      | (go_at_call 21; refine passive_c (St.pick 1 y4) HAA.out.2 ?_; rw [HNP.out]; rintro a6 c6 w6 y6; have gF := tellS HC.out (y6.perm [5, 5, 5]); rw [H5.out, H6.out] at gF))
                  have z := y6.sel [5, 5, 5, 1, 4, 4, 4, 4, 4, 4]
                  have k0 := row1c z
                  clear gA gB gC gD gE gF y1 y2 y3 y4 y6 u sP
                  go_wp2_with (go_at_call 30; refine knownL_known (St.pick 3 z) HVK.out ?_; rintro ak ck wk yk; rw [knownL_len, HNA.out, HNP.out] at yk ⊢)
                  have u2 := yk.drew
                  have hA := row1c (St.pick 2 u2)
                  have hw : IntKind.i64.wrap ((na : Int) + (np : Int)) = (na : Int) + (np : Int) := IntWalk.i64_in _ (by omega)
                  go_region_held3 (fun w' => w'.cell? ⟨b, 0, none⟩ = some (.pointer (some ⟨v, 0, none⟩)))
                    (first
                      | with_reducible exact hC
                      | with_reducible exact hB
                      | with_reducible exact hA)
                    (first
                      | (go_at_call 16; refine active_c (St.pick 1 u2) HAA.out.1 ?_; rw [HNA.out]; rintro a7 c7 w7 y7; have hB := row1c (St.pick 3 y7))
                      | (go_at_call 21; refine passive_c (St.pick 1 y7) HAA.out.2 ?_; rw [HNP.out]; rintro a8 c8 w8 y8; have hC := row1c (St.pick 4 y8)))
                  rw [← HV.out] at y8
                  have z3 := OvA.close (O := freshO X) (v := v) (y8.sel [4, 6, 6, 6, 6, 6, 1, 5, 2, 2, 2])
                  rw [HV.out] at z3
                  have HKS := hid (knownL_sorted HVK.out)
                  have HKL : Hid ((knownL V).length = na + np) := hid (by rw [knownL_len, HNA.out, HNP.out])
                  obtain ⟨Kl, hKl⟩ : ∃ Kl, knownL V = Kl := ⟨_, rfl⟩
                  rw [hKl] at HKO HKS HKL z3
                  clear hKl y8 y7 yk u2 z k0 hA hB hC
                  go_wp2_with fail
                  go_loopw [190] (fun tt wx => ∃ t : Nat, t ≤ na + np ∧ tt = .int .i64 t ∧ St W wx [OvA b d (freshO X), OwnS 1 ak (na + np) ck (ivs Kl), row E 0 (bits V.a), row T 0 (ivs c)]) (fun tt _ => na + np - (intOf tt).toNat)
                  case atStart => exact ⟨0, Nat.zero_le _, rfl, z3⟩
                  case round =>
                    clear z3
                    obtain ⟨t, ht, rfl, sz⟩ := hrel
                    by_cases htl : t < na + np
                    · have ht2 : (t : Int) < (na : Int) + (np : Int) := by omega
                      have rdk := OwnS.rd (St.pick 1 sz)
                      obtain ⟨g6, o6, rfl⟩ := rdk.addr (by omega)
                      have htK : t < Kl.length := by rw [HKL.out]; exact htl
                      have ct := rdk.at (ivs_get htK)
                      have hko := HKO.out _ (List.getElem_mem htK)
                      have c0 := cfg_at (St.pick 3 sz) HL0.out
                      rw [HNN.out] at c0 hko
                      by_cases h0 : t = 0
                      · obtain ⟨p, hp⟩ : ∃ p, Kl[t] = p := ⟨_, rfl⟩
                        rw [hp] at ct hko
                        obtain ⟨t0, t1, t2⟩ := hko
                        have j0 : (p == self) = false := by simpa using t2
                        have j1 : decide (p < 0) = false := decide_eq_false (by omega)
                        have j2 : decide (nn ≤ p) = false := decide_eq_false (by omega)
                        have j3 : decide (0 < t) = false := decide_eq_false (by omega)
                        have j4 : decide ((0 : Int) < (t : Int)) = false := decide_eq_false (by omega)
                        clear hp rdk t0 t1 t2 h0
                        go_wp2_with fail
                        go_roundw
                        case rel => exact ⟨t + 1, by omega, by go_num, sz⟩
                        case measure => simp [intOf]; omega
                      · obtain ⟨s, rfl⟩ : ∃ s, t = s + 1 := ⟨t - 1, by omega⟩
                        have hsK : s < Kl.length := by omega
                        have cs := rdk.at (ivs_get hsK)
                        have hlt := (List.pairwise_iff_getElem.1 HKS.out) s (s + 1) hsK htK (by omega)
                        obtain ⟨p, hp⟩ : ∃ p, Kl[s + 1] = p := ⟨_, rfl⟩
                        obtain ⟨m, hm⟩ : ∃ m, Kl[s] = m := ⟨_, rfl⟩
                        rw [hp] at ct hko hlt
                        rw [hm] at cs hlt
                        obtain ⟨t0, t1, t2⟩ := hko
                        have j0 : (p == self) = false := by simpa using t2
                        have j1 : decide (p < 0) = false := decide_eq_false (by omega)
                        have j2 : decide (nn ≤ p) = false := decide_eq_false (by omega)
                        have j3 : decide (0 < (s : Int) + 1) = true := decide_eq_true (by omega)
                        have j4 : decide (p ≤ m) = false := decide_eq_false (by omega)
                        have j5 : IntKind.i64.wrap ((s : Int) + 1 - 1) = (s : Int) := by rw [IntWalk.i64_in _ (by omega)]; omega
                        have j6 : (s : Int) < (na : Int) + (np : Int) := by omega
                        have j7 : (s : Int) + 1 < (na : Int) + (np : Int) := by omega
                        clear hp hm rdk t0 t1 t2 h0 hlt
                        go_wp2_with fail
                        go_roundw
                        case rel => exact ⟨s + 1 + 1, by omega, by go_num, sz⟩
                        case measure => simp [intOf]; omega
                    · have hte : na + np = t := by omega
                      go_wp2_with fail
                      go_roundw
                      case rel => exact ⟨i + 1, freshO X, by omega, by go_num, HX, by rw [HV.out]; exact sz.sel [0, 1, 1]⟩
                      case measure => simp [intOf]; omega
        · have hie : i = ln := by omega
          subst hie
          go_wp2_with fail
          exact HK.out _ sr.below
    · exact HK.out _ s9.below
  · cases rb with
    | false =>
      clear hq hrb hnn
      go_enter Tryz.func7, Tryz.ntmps7
      go_wp2_with (first
        | (replace st := hid st; refine wpl_boxA (vs := ivs c) rfl (.tmp 1) rfl rfl st.out ?_; rintro T w1 s1; clear st)
        | (go_at_call 10; first
            | (refine speaks_c s4 ?_; rintro w9 s9)
            | (refine speaks_c s3 ?_; rintro w9 s9)
            | (refine speaks_c s1 ?_; rintro w2 s2))
        | (go_at_call 23; refine few17_c s2 (HLR.out.rds _) HRD.out ?_; rintro w3 fb s3 hfb; have HFB := hid hfb; clear hfb; have l3 := ldC HC.out s3)
        | (go_at_call 11; refine right_c s3 HC.out ?_; rintro w4 s4; rw [HR.out]))
      all_goals exact HK.out _ s9.below
    | true =>
      by_cases hp1 : 0 ≤ self
      · have k1 : decide (self < 0) = false := decide_eq_false (by omega)
        have k2 : decide (nn ≤ self) = true := decide_eq_true (by have : ¬ self < nn := fun h => hq ⟨rfl, hp1, h⟩; omega)
        clear hq hrb hnn hp1
        go_enter Tryz.func7, Tryz.ntmps7
        go_wp2_with (first
          | (replace st := hid st; refine wpl_boxA (vs := ivs c) rfl (.tmp 1) rfl rfl st.out ?_; rintro T w1 s1; clear st)
          | (go_at_call 10; first
              | (refine speaks_c s4 ?_; rintro w9 s9)
              | (refine speaks_c s3 ?_; rintro w9 s9)
              | (refine speaks_c s1 ?_; rintro w2 s2))
          | (go_at_call 23; refine few17_c s2 (HLR.out.rds _) HRD.out ?_; rintro w3 fb s3 hfb; have HFB := hid hfb; clear hfb; have l3 := ldC HC.out s3)
          | (go_at_call 11; refine right_c s3 HC.out ?_; rintro w4 s4; rw [HR.out]; have c0 := cfg_at s4 HL0.out; rw [HNN.out] at c0))
        all_goals exact HK.out _ s9.below
      · have k1 : decide (self < 0) = true := decide_eq_true (by omega)
        clear hq hrb hnn hp1
        go_enter Tryz.func7, Tryz.ntmps7
        go_wp2_with (first
          | (replace st := hid st; refine wpl_boxA (vs := ivs c) rfl (.tmp 1) rfl rfl st.out ?_; rintro T w1 s1; clear st)
          | (go_at_call 10; first
              | (refine speaks_c s4 ?_; rintro w9 s9)
              | (refine speaks_c s3 ?_; rintro w9 s9)
              | (refine speaks_c s1 ?_; rintro w2 s2))
          | (go_at_call 23; refine few17_c s2 (HLR.out.rds _) HRD.out ?_; rintro w3 fb s3 hfb; have HFB := hid hfb; clear hfb; have l3 := ldC HC.out s3)
          | (go_at_call 11; refine right_c s3 HC.out ?_; rintro w4 s4; rw [HR.out]))
        all_goals exact HK.out _ s9.below
end

end Go.Proofs.YtbpdchaeakihkaaGreat
