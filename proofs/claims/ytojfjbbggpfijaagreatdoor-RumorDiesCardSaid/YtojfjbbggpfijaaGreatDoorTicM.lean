/- A mill: Tick and Count. Printed by mkTicM.py. -/
import Derived.Test.YtojfjbbggpfijaaGreatDoorRumsB
import Derived.Test.YtojfjbbggpfijaaGreatDoorRumsA
import Derived.Test.YtojfjbbggpfijaaGreatDoorDices
namespace Go.Proofs.YtojfjbbggpfijaaGreatDoor
open Go.RowKit Go.Qd RepV

theorem ivs_ln {w : World} {ao : Option Addr} {n c : Nat} {zs : List Int} (h : RdS w 1 ao n c (ivs zs)) : zs.length = n := by have := h.len; simpa [ivs] using this
section
variable {W w : World} {R : List HP} {post : Ending → World → Prop} {c : List Int} {b dp : Nat} {A : RAd} {r : RepV}
/-- keep's predicate, where a rumor is asked whether it is fresh. -/
theorem keep1_FR {P n cp : Nat} {x : TkV} {a : Option Addr} (hc : c.length = 20) (hr : RepOK r) :
    PredT W (sepL [row P 0 [.func (.func 55) #[.pointer (some ⟨b, 0, none⟩)] #[]], sepL [RepA A r, row b 0 (millC A.p c dp a n cp)]]) 104 (.pointer (some ⟨P, 0, none⟩)) x (!freshB r x) := by
  intro R' w1 p1 s0 K
  have HK := hid K; clear K
  have HC := hid hc; have HR := hid hr
  have st : St W w1 (row P 0 [.func (.func 55) #[.pointer (some ⟨b, 0, none⟩)] #[]] :: sepL [RepA A r, row b 0 (millC A.p c dp a n cp)] :: R') := (St.flat [row P 0 [.func (.func 55) #[.pointer (some ⟨b, 0, none⟩)] #[]], sepL [RepA A r, row b 0 (millC A.p c dp a n cp)]]).1 s0
  have hL : x.cells.length = 4 := rfl
  clear hc hr
  go_enter Tryz.func104, Tryz.ntmps104
  go_wp2_with (first
    | (refine wpl_boxA (vs := x.cells) rfl (.tmp 0) rfl rfl st ?_; rintro T w2 s2; have c0 := row1c (St.pick 1 s2); have s3 : St W w2 (RepA A r :: row b 0 (millC A.p c dp a n cp) :: row T 0 x.cells :: row P 0 [.func (.func 55) #[.pointer (some ⟨b, 0, none⟩)] #[]] :: R') := (St.flat [RepA A r, row b 0 (millC A.p c dp a n cp)]).1 (St.pick 2 s2))
    | (refine wpl_loadA (vs := x.cells) rfl (.tmp 2) (by rfl) agg_tk (by rfl) rfl s2.rowAll ?_)
    | (go_at_call 55; refine fresh_c HC.out HR.out s3 ?_; rintro w4 s4))
  have t1 := (St.flat [RepA A r, row b 0 (millC A.p c dp a n cp)]).2 s4
  exact HK.out _ ((St.flat [row P 0 [.func (.func 55) #[.pointer (some ⟨b, 0, none⟩)] #[]], sepL [RepA A r, row b 0 (millC A.p c dp a n cp)]]).2 ((t1.pick 1).drop.pick 1))

/-- A predicate's value over numbers. -/
def PredN (W : World) (A : HP) (F : Nat) (v : Value) (x : Int) (t : Bool) : Prop :=
  ∀ (R' : List HP) (w1 : World) (p1 : Ending → World → Prop), St W w1 (A :: R') → (∀ w2, St W w2 (A :: R') → p1 (.returned (.bool t)) w2) → Calls Tryz.prog F #[.int .i64 x, v] w1 p1
section
set_option maxRecDepth 100000 in
set_option maxHeartbeats 4000000 in
theorem nIdx_c {a : Option Addr} {n cp : Nat} {l : List Int} {g : Int → Bool} {v : Value} {A : HP} (hf : ∀ x, PredN W A 58 v x (g x)) (st : St W w (OwnS 1 a n cp (ivs l) :: A :: R))
    (K0 : ∀ w', l.all (fun x => !g x) = true → St W w' (OwnS 1 a n cp (ivs l) :: A :: R) → post (.returned (.int .i64 (-1))) w')
    (K1 : ∀ (i : Nat) w', (∃ h : i < l.length, g l[i] = true) → (l.take i).all (fun x => !g x) = true → St W w' (OwnS 1 a n cp (ivs l) :: A :: R) → post (.returned (.int .i64 i)) w') :
    Calls Tryz.prog 106 #[.slice a n cp, .func (.func 58) #[] #[v]] w post := by
  have HK0 := hid K0; have HK1 := hid K1; clear K0 K1
  have HF := hid hf; clear hf
  have hl : l.length = n := ivs_ln (OwnS.rd st)
  have HL := hid hl
  have hbig := (OwnS.rd st).big
  clear hl
  go_enter Tryz.func106, Tryz.ntmps106
  go_wp2_with fail
  go_loopw [8] (fun ii wr => ∃ i : Nat, i ≤ n ∧ ii = .int .i64 i ∧ Hid ((l.take i).all (fun x => !g x) = true) ∧ St W wr (OwnS 1 a n cp (ivs l) :: A :: R)) (fun ii _ => n - (intOf ii).toNat)
  case atStart => exact ⟨0, Nat.zero_le _, rfl, hid rfl, st⟩
  case round =>
    obtain ⟨i, hi, rfl, HA, sr⟩ := hrel
    by_cases hlt : i < n
    · have hi2 : (i : Int) < (n : Int) := by omega
      have hiL : i < l.length := by rw [HL.out]; exact hlt
      have rd := OwnS.rd sr
      obtain ⟨gb, go, rfl⟩ := rd.addr (by omega)
      have l0 := rd.at (ivs_get hiL)
      have HT : Hid ((l.take (i + 1)).all (fun x => !g x) = (!g l[i])) := hid (by rw [List.take_succ_eq_append_getElem hiL, List.all_append, HA.out]; simp)
      have HX : Hid (∀ x, l[i] = x → ∃ h : i < l.length, l[i] = x) := hid (fun x h => ⟨hiL, h⟩)
      obtain ⟨x, hx⟩ : ∃ x, l[i] = x := ⟨_, rfl⟩
      have HX2 := hid (HX.out x hx)
      rw [hx] at l0 HT
      obtain ⟨b, hb⟩ : ∃ b, g x = b := ⟨_, rfl⟩
      have HB := hid hb
      rw [hb] at HT
      clear hx rd hiL HX hb
      cases b with
      | true =>
        go_wp2_with (go_at_call 58; refine HF.out x _ _ _ (St.pick 1 sr) ?_; rintro w2 s2; rw [HB.out])
        exact HK1.out i _ (by obtain ⟨h, e⟩ := HX2.out; exact ⟨h, by rw [e]; exact HB.out⟩) HA.out (St.pick 1 s2)
      | false =>
        go_wp2_with (go_at_call 58; refine HF.out x _ _ _ (St.pick 1 sr) ?_; rintro w2 s2; rw [HB.out])
        go_roundw
        case rel => exact ⟨i + 1, by omega, by go_num, hid HT.out, St.pick 1 s2⟩
        case measure => simp [intOf]; omega
    · have hie : i = n := by omega
      subst hie
      have ha := HA.out
      rw [List.take_of_length_le (by rw [HL.out]; exact Nat.le_refl _)] at ha
      have HA2 := hid ha; clear ha
      go_wp2_with fail
      exact HK0.out _ HA2.out sr
set_option maxRecDepth 100000 in
set_option maxHeartbeats 8000000 in
theorem nDel_c {a : Option Addr} {n cp : Nat} {l : List Int} {g : Int → Bool} {v : Value} {A : HP} (hn : n ≤ 4096) (hf : ∀ x, PredN W A 58 v x (g x)) (st : St W w (OwnS 1 a n cp (ivs l) :: A :: R))
    (K : ∀ n' w', n' = (l.filter fun x => !g x).length → St W w' (OwnS 1 a n' cp (ivs (l.filter fun x => !g x)) :: A :: R) → post (.returned (.slice a n' cp)) w') :
    Calls Tryz.prog 57 #[.slice a n cp, .func (.func 58) #[] #[v]] w post := by
  have HK := hid K; clear K
  have HF := hid hf; clear hf
  have hl : l.length = n := ivs_ln (OwnS.rd st)
  have HL := hid hl
  clear hl
  go_enter Tryz.func57, Tryz.ntmps57
  go_wp2_with (go_at_call 106; refine nIdx_c HF.out st ?_ ?_; rotate_left; rintro i0 w2 he ha s2; have HE := hid he; have HA := hid ha; clear he ha; have hi0 : i0 < n := (by obtain ⟨h, _⟩ := HE.out; rw [HL.out] at h; exact h); have hi0i : (i0 : Int) < (n : Int) := (by omega); have d1 : ((i0 : Int) == -1) = false := (by rw [beq_eq_false_iff_ne]; omega); rotate_left; rintro w2 ha s2; have HA := hid ha; clear ha)
  · exact HK.out n _ (by rw [List.filter_eq_self.2 (fun x hx => List.all_eq_true.1 HA.out x hx)]; exact HL.out.symm) (by rw [List.filter_eq_self.2 (fun x hx => List.all_eq_true.1 HA.out x hx)]; exact s2)
  go_loopw [5, 6] (fun ii jj wr => ∃ (i j : Nat) (L : List Int), i < j ∧ j ≤ n ∧ ii = .int .i64 i ∧ jj = .int .i64 j ∧ Hid (L.length = n ∧ L.take i = (l.take j).filter (fun x => !g x) ∧ L.drop j = l.drop j) ∧ St W wr (OwnS 1 a n cp (ivs L) :: A :: R)) (fun _ jj _ => n - (intOf jj).toNat)
  case atStart =>
    refine ⟨i0, i0 + 1, l, by omega, by omega, rfl, by go_num, hid ⟨HL.out, ?_, rfl⟩, s2⟩
    obtain ⟨h, e⟩ := HE.out
    rw [List.take_succ_eq_append_getElem h, List.filter_append, List.filter_eq_self.2 (fun x hx => List.all_eq_true.1 HA.out x hx)]
    simp [e]
  case round =>
    obtain ⟨i, j, L, hij, hj, rfl, rfl, HI, sr⟩ := hrel
    clear hi0i d1 s2 hi0
    by_cases hlt : j < n
    · have hj2 : (j : Int) < (n : Int) := by omega
      have hjL : j < L.length := by rw [HI.out.1]; exact hlt
      have hjl : j < l.length := by rw [HL.out]; exact hlt
      have rd := OwnS.rd sr
      obtain ⟨gb, go, rfl⟩ := rd.addr (by omega)
      have l0 := rd.at (ivs_get hjL)
      have hxx : l[j] = L[j] := by
        have h1 := List.drop_eq_getElem_cons hjL
        have h2 := List.drop_eq_getElem_cons hjl
        have h3 := HI.out.2.2
        rw [h1, h2] at h3
        exact (List.cons.inj h3).1.symm
      have HD : Hid (L.drop (j + 1) = l.drop (j + 1)) := hid (by
        have h1 := List.drop_eq_getElem_cons hjL
        have h2 := List.drop_eq_getElem_cons hjl
        have h3 := HI.out.2.2
        rw [h1, h2] at h3
        exact (List.cons.inj h3).2)
      have HT : Hid ((l.take (j + 1)).filter (fun x => !g x) = L.take i ++ if g L[j] = true then [] else [L[j]]) := hid (by
        rw [List.take_succ_eq_append_getElem hjl, List.filter_append, ← HI.out.2.1, hxx]
        cases hg : g L[j] <;> simp [hg])
      obtain ⟨x, hx⟩ : ∃ x, L[j] = x := ⟨_, rfl⟩
      rw [hx] at l0 HT
      obtain ⟨b, hb⟩ : ∃ b, g x = b := ⟨_, rfl⟩
      have HB := hid hb
      rw [hb] at HT
      have hiN : i < n := by omega
      have hi3 : (i : Int) < (n : Int) := by omega
      have HLI : Hid (L.length = n) := hid HI.out.1
      clear hx rd hjL hjl hxx hb
      cases b with
      | true =>
        go_wp2_with (go_at_call 58; refine HF.out x _ _ _ (St.pick 1 sr) ?_; rintro w4 s4; rw [HB.out])
        go_roundw
        case rel => exact ⟨i, j + 1, L, by omega, by omega, rfl, by go_num, hid ⟨HI.out.1, by rw [HT.out]; simp, HD.out⟩, s4.pick 1⟩
        case measure => simp [intOf]; omega
      | false =>
        go_wp2_with (go_at_call 58; refine HF.out x _ _ _ (St.pick 1 sr) ?_; rintro w4 s4; rw [HB.out]; obtain ⟨f1, f2, s5⟩ := ownSetC (i := i) (v := .int .i64 x) (St.pick 1 s4) (by rw [ivs_length, HLI.out]; exact hiN) rfl; rw [List.getElem?_eq_getElem (by rw [ivs_length, HLI.out]; exact hiN)] at f2)
        go_roundw
        case rel =>
          have hLl := HI.out.1
          have e : (ivs L).set i (.int .i64 x) = ivs (L.take i ++ [x] ++ L.drop (i + 1)) := by
            have h1 : L.set i x = L.take i ++ [x] ++ L.drop (i + 1) := by rw [List.set_eq_take_append_cons_drop, if_pos (by omega)]; simp
            rw [← h1]; unfold ivs; rw [List.map_set]
          rw [e] at s5
          have e1 : (L.take i ++ [x]).length = i + 1 := by rw [List.length_append, List.length_take, List.length_singleton]; omega
          refine ⟨i + 1, j + 1, L.take i ++ [x] ++ L.drop (i + 1), by omega, by omega, by go_num, by go_num, hid ⟨?_, ?_, ?_⟩, s5⟩
          · rw [List.length_append, e1, List.length_drop]; omega
          · rw [List.take_append_of_le_length (by omega), List.take_of_length_le (by omega), HT.out, if_neg (by decide)]
          · rw [List.drop_append, List.drop_of_length_le (by omega), List.nil_append, e1, List.drop_drop, ← HD.out]
            congr 1
            omega
        case measure => simp [intOf]; omega
    · have hje : j = n := by omega
      subst hje
      have hiN : i ≤ j := by omega
      obtain ⟨n2, hn2⟩ : ∃ n2, n2 + i = j := ⟨j - i, by omega⟩
      have hle := (OwnS.rd sr).le
      obtain ⟨ax, cx, ht, hs1⟩ := run_slice_from (P := Tryz.prog) Tryz.elem24 a j cp i n2 (i := (i : Int)) rfl hn2
      have hs2 := run_slice_to (P := Tryz.prog) Tryz.elem24 a j cp i (by omega)
      have s3 : St W wr (OwnS 1 a i cp (ivs (L.take i)) :: A :: R) := by
        have h := OwnS.short sr hiN
        rw [Nat.mul_one, show (ivs L).take i = ivs (L.take i) from by unfold ivs; rw [List.map_take]] at h
        exact h
      have he : L.take i = l.filter (fun x => !g x) := by
        have h := HI.out.2.1
        rw [show l.take j = l from List.take_of_length_le (by rw [HL.out]; exact Nat.le_refl _)] at h
        exact h
      have hlen : i = (l.filter (fun x => !g x)).length := by rw [← he, List.length_take, HI.out.1]; omega
      rw [he] at s3
      have HT := hid ht; have HLE := hid hle; have HN := hid hlen; have HN2 := hid hn2
      clear ht hle he hlen hn2 hiN
      go_wp2_with (refine wpl_clear rfl _ rfl Tryz.elem24 rfl s3 (by have h1 := HLE.out; have h2 := HN2.out; omega) HT.out ?_; rintro w4 s4)
      exact HK.out i _ HN.out s4
end
set_option maxRecDepth 100000 in
set_option maxHeartbeats 4000000 in
/-- Tick's predicate: not another node's number? -/
theorem tick1_c {M n cp : Nat} {x : Int} {a : Option Addr} (hc : c.length = 20) : PredN W (sepL [row M 0 [.pointer (some ⟨b, 0, none⟩)], sepL [row b 0 (millC A.p c dp a n cp), RepA A r]]) 58 (.pointer (some ⟨M, 0, none⟩)) x (!nodeB (c.getD 0 0) r.site x) := by
  intro R' w1 p1 s0 K
  have HK := hid K; clear K
  have HC := hid hc; clear hc
  have st : St W w1 (row M 0 [.pointer (some ⟨b, 0, none⟩)] :: sepL [row b 0 (millC A.p c dp a n cp), RepA A r] :: R') := (St.flat [row M 0 [.pointer (some ⟨b, 0, none⟩)], sepL [row b 0 (millC A.p c dp a n cp), RepA A r]]).1 s0
  have c0 := row1c st
  have s2 := (St.flat [row b 0 (millC A.p c dp a n cp), RepA A r]).1 (St.pick 1 st)
  go_enter Tryz.func58, Tryz.ntmps58
  go_wp2_with (go_at_call 38; refine mnode_c HC.out s2 ?_)
  exact HK.out _ s0
/-- How many knew a rumor already. -/
def countL (l : List TkV) (k : MkV) : Int := ((l.find? fun t => mkEq t.m k).map (·.n)).getD 0
theorem countL_in {H L : Int} {l : List TkV} (h : HotI H L l) (hL : 1 ≤ L) (k : MkV) : 0 ≤ countL l k ∧ countL l k < L := by
  unfold countL
  cases hf : l.find? (fun t => mkEq t.m k) with
  | none => exact ⟨Int.le_refl _, by show (0 : Int) < L; omega⟩
  | some t => exact h.cnt t (List.mem_of_find?_eq_some hf)
end
end Go.Proofs.YtojfjbbggpfijaaGreatDoor
