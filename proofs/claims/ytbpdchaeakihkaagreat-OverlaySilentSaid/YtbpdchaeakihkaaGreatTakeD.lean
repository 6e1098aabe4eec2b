/- The overlay: Take, of a message Join. -/
import Derived.Test.YtbpdchaeakihkaaGreatTakeC
namespace Go.Proofs.YtbpdchaeakihkaaGreat
open Go.RowKit Go.Qd

/-- The news of a joiner. -/
def fwdM (O : OV) (p : Int) : MsgV := { kindM 2 with peer := p, hops := O.cfg.getD 7 0 }
def fwdL (O : OV) (p : Int) (l : List Int) : List LetV := l.map fun q => ⟨q, fwdM O p⟩
theorem fwd_snoc {O : OV} {p : Int} {l : List Int} {i : Nat} (h : i < l.length) : fwdL O p (l.take (i + 1)) = fwdL O p (l.take i) ++ [⟨l[i], fwdM O p⟩] := by
  unfold fwdL; rw [List.take_succ_eq_append_getElem h, List.map_append]; rfl
def joinedO (O : OV) (p : Int) : OV := raiseO (heardO O p) p
def take1O (O : OV) (p : Int) : OV := { joinedO O p with L := (joinedO O p).L ++ fwdL (joinedO O p) p (othersL (joinedO O p) [p]) }

theorem heardO_LC (O : OV) (p : Int) : (heardO O p).L = O.L ∧ (heardO O p).C = O.C ∧ (heardO O p).cfg = O.cfg := by
  unfold heardO learnO; split <;> exact ⟨rfl, rfl, rfl⟩

section
variable {W w : World} {R : List HP} {post : Ending → World → Prop} {b d : Nat} {O : OV} {m : MsgV} {p : Int}

def b58fG (z x y : Value) : Sem Value := Instr.build 58 #[(0, z), (1, x), (2, y)]
theorem execOp_b58f (ρ : Operand → Value) (dst : Option Tmp) (z x y : Operand) (ty : TypeId) (pos : String) (after : Array Edge) (guard : Option (Nat × Bool)) :
    execOp ρ { dst, op := .build 58 #[(0, z), (1, x), (2, y)], type := ty, pos, after, guard } = (do pure (.value (← b58fG (ρ z) (ρ x) (ρ y)))) := by simp [execOp, b58fG]
theorem run_b58f (x y : Int) (w : World) : (b58fG (.int .i64 2) (.int .i64 x) (.int .i64 y)).run Tryz.prog w = .ok (.agg ({ kindM 2 with peer := x, hops := y } : MsgV).cells.toArray) w := by kernel_rfl
attribute [local go_sem ↓] execOp_load58 execOp_b58f
attribute [local go_sem] run_b58f

set_option maxRecDepth 100000 in
set_option maxHeartbeats 8000000 in
theorem take1_c (st : St W w (OvA b d O :: R)) (h : OOK O) (hn : onodeB O p = true) (hk : m.kind = 1) (hp : Rds W (OvA b d O :: R) 1 m.pa m.pn m.pc (ivs m.ps)) (hpn : m.pn ≤ 4096) (hf : fitsB O m 1 = true)
    (hL : O.L.length ≤ 100) (hC : O.C.length ≤ 100)
    (K : ∀ la ln lc ca cn cc w', St W w' (OvA b d (freshO (take1O O p)) :: OwnS 13 la ln lc (letC (take1O O p).L) :: OwnS 2 ca cn cc (chC (take1O O p).C) :: sepL ((take1O O p).L.map LetV.own) :: R) →
      post (.returned (.tuple #[.slice la ln lc, .slice ca cn cc, .int .i64 0])) w') : Calls Tryz.prog 22 #[.pointer (some ⟨b, 0, none⟩), .int .i64 p, .agg m.cells.toArray] w post := by
  have HK := hid K; clear K
  have HN := hid hn
  have hcl := h.cl
  have HO1 := hid (h.heard p)
  have HO2 := hid ((h.heard p).raise p)
  have HF := hid hf
  have HKD := hid hk
  have HPR := hid hp
  have HPN := hid hpn
  have hl1 : (heardO O p).L.length ≤ 4000 := by rw [(heardO_LC O p).1]; omega
  have hc1 : (heardO O p).C.length ≤ 4000 := by rw [(heardO_LC O p).2.1]; omega
  have hl2 : (joinedO O p).L.length ≤ 200 := by have := raiseO_len (heardO O p) p; rw [(heardO_LC O p).1] at this; unfold joinedO; omega
  have HL2 := hid hl2
  have HO := hid h
  clear hn hf hk hp hpn h hl2
  go_enter Tryz.func22, Tryz.ntmps22
  go_wp2_with (first
    | (refine wpl_boxA (vs := m.cells) rfl (.tmp 2) rfl rfl st ?_; rintro T w1 s1; have f1 := lg58 s1)
    | (go_at_call 42; refine onode_c (St.pick 1 s1) hcl ?_; rw [HN.out])
    | (go_at_call 51; refine fits_c (k := 1) (by decide) (by decide) HKD.out ?_ HPN.out (St.pick 1 s1) hcl ?_
       · exact fun w' s => HPR.out w' (St.drop (St.pick 1 s))
       rintro w2 s2; rw [HF.out])
    | (go_at_call 17; refine heard_c s2 HO.out HN.out ?_; rintro w3 s3; obtain ⟨g0, _⟩ := boxM (St.pick 1 s3); rw [HKD.out] at g0)
    | (go_at_call 43; refine oraise_c s3 HO1.out hl1 hc1 ?_; rintro w4 s4; have s5 := s4.alloc #[.int .i64 p] 3)
    | (go_at_call 52; refine others_c (R := row w4.heap.size 0 [.int .i64 p] :: row T 0 m.cells :: R) (but := [p]) (s5.perm [1, 0]) HO2.out (fun w' s => St.rowRd (sz := 1) (n := 1) s rfl (by decide) (ivs_one [p])) ?_; rintro ao n c w6 s6))
  have hna : n ≤ 11 := by
    have h1 := ivs_len (OwnS.rd s6)
    have h2 : (othersL (raiseO (heardO O p) p) [p]).length ≤ (raiseO (heardO O p) p).V.a.length := List.length_filter_le _ _
    have h3 := HO2.out.v.la; have h4 := HO2.out.v.am
    omega
  obtain ⟨J, hJ⟩ : ∃ J, raiseO (heardO O p) p = J := ⟨_, rfl⟩
  have eT : take1O O p = { J with L := J.L ++ fwdL J p (othersL J [p]) } := by unfold take1O joinedO; rw [hJ]
  have hl3 : J.L.length ≤ 200 := by rw [← hJ]; exact HL2.out
  rw [hJ] at s6 HO2
  rw [eT] at HK
  obtain ⟨A, hA⟩ : ∃ A, othersL J [p] = A := ⟨_, rfl⟩
  rw [hA] at s6 HK
  have HNN : Hid (A.length = n) := hid (ivs_len (OwnS.rd s6))
  have HJC := hid HO2.out.cl
  clear hJ eT hA HL2
  go_loopw [36] (fun ii wr => ∃ i : Nat, i ≤ n ∧ ii = .int .i64 i ∧ St W wr (OwnS 1 ao n c (ivs A) :: OvA b d { J with L := J.L ++ fwdL J p (A.take i) } :: R)) (fun ii _ => n - (intOf ii).toNat)
  case atStart => exact ⟨0, Nat.zero_le _, rfl, by rw [List.take_zero, show fwdL J p [] = [] from rfl, List.append_nil]; exact (s6.perm [2, 2]).dropN 2⟩
  case round =>
    obtain ⟨i, hi, rfl, sr⟩ := hrel
    by_cases hlt : i < n
    · have rd := OwnS.rd sr
      obtain ⟨g3, o3, rfl⟩ := rd.addr (by omega)
      have hiA : i < A.length := by rw [HNN.out]; exact hlt
      have ci := rd.at (ivs_get hiA)
      have hsn := fwd_snoc (O := J) (p := p) hiA
      obtain ⟨q, hq⟩ : ∃ q, A[i] = q := ⟨_, rfl⟩
      rw [hq] at ci hsn
      have HS := hid hsn
      have hbl : (J.L ++ fwdL J p (A.take i)).length ≤ 4096 := by rw [List.length_append]; simp [fwdL]; omega
      have HBL := hid hbl
      clear hq hsn rd hbl
      have hi2 : (i : Int) < (n : Int) := by omega
      obtain ⟨hp, hhp⟩ : ∃ hp, J.cfg.getD 7 0 = hp := ⟨_, rfl⟩
      have HHP := hid hhp
      have eM : fwdM J p = { kindM 2 with peer := p, hops := hp } := by unfold fwdM; rw [hhp]
      rw [eM] at HS
      clear hhp eM
      go_wp2_with fail
      obtain ⟨v, t⟩ := OvA.open (St.pick 1 sr).drew
      have f := fun (w' : World) (R3 : List HP) (s3 : St W w' (row b 3 (ivs J.cfg) :: R3)) => show w'.cell? ⟨b, 10, none⟩ = some (.int .i64 hp) from by have := (cfg2 HJC.out s3).1; rwa [HHP.out] at this
      have FF := hid f
      have gA := f _ _ (St.pick 2 t)
      clear f
      go_region_held3 (fun w' => w'.cell? ⟨b, 10, none⟩ = some (.int .i64 hp))
        (first
          | with_reducible exact gB
          | with_reducible exact gA)
        (first | (go_at_call 44; refine send_c (to := q) (m := { kindM 2 with peer := p, hops := hp }) ((OwnS.none0 (sz := 1) t).perm [2, 0]) HBL.out ?_; rintro w6 s6; have gB := FF.out _ _ (St.pick 2 s6)))
      all_goals
        have u := OvA.close (O := { J with L := J.L ++ fwdL J p (A.take i) ++ [⟨q, { kindM 2 with peer := p, hops := hp }⟩] }) (v := v) (s6.perm [1, 0])
        go_wp2_with fail
        go_roundw
        case rel => exact ⟨i + 1, by omega, by go_num, by rw [HS.out, ← List.append_assoc]; exact St.pick 1 u⟩
        case measure => simp [intOf]; omega
    · have hie : i = n := by omega
      subst hie
      rw [List.take_of_length_le (by rw [HNN.out]; exact Nat.le_refl _)] at sr
      go_wp2_with (go_at_call 45; refine told_c (St.pick 1 sr) ?_; rintro la ln lc ca cn cc w9 s9)
      go_ret3
      exact HK.out _ _ _ _ _ _ _ (St.drop (St.pick 4 s9) |>.perm [])

end

end Go.Proofs.YtbpdchaeakihkaaGreat
