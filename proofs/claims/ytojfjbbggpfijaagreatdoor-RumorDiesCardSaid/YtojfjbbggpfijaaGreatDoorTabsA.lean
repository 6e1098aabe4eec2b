/- TabsA: several texts, joined. Tables: texts compared; where a key stands. -/
import Derived.Test.YtojfjbbggpfijaaGreatDoorKeys
import Derived.Test.YtojfjbbggpfijaaGreatDoorLib
import Derived.Laws.Cover1
namespace Go.Proofs.YtojfjbbggpfijaaGreatDoor
open Go.RowKit Go.Qd

def cmpK (a b : ByteArray) : Int := if kLt a b = true then -1 else if kLt b a = true then 1 else 0
theorem cmpK_lt {a b : ByteArray} : decide (cmpK a b < 0) = kLt a b := by
  unfold cmpK; cases kLt a b <;> simp; split <;> simp
theorem cmpK_zero {a b : ByteArray} : (cmpK a b == 0) = decide (a = b) := by
  unfold cmpK
  cases h : kLt a b with
  | true => simp [kLt_ord.ne h]
  | false =>
    cases h2 : kLt b a with
    | true => simp [(kLt_ord.ne h2).symm]
    | false => simp [kLt_ord.tri h h2]

/-- A pair's cells. -/
def peC (p : KE) : List Value := .string p.1 :: p.2.cells
def tabC (l : List KE) : List Value := (l.map peC).flatten
theorem tabC_sz (l : List KE) : (tabC l).length = l.length * 10 := by
  induction l with
  | nil => rfl
  | cons x l ih => show (peC x ++ tabC l).length = _; rw [List.length_append, ih, List.length_cons]; simp [peC, EnV.cells]; omega
theorem tabC_get {l : List KE} {i : Nat} (hi : i < l.length) {j : Nat} {u : Value} (h : (peC l[i])[j]? = some u) : (tabC l)[i * 10 + j]? = some u := by
  have hj : j < 10 := by
    rcases Nat.lt_or_ge j 10 with g | g
    · exact g
    · rw [List.getElem?_eq_none (by simpa [peC, EnV.cells] using g)] at h; cases h
  have := flat_get (css := l.map peC) (sz := 10) (fun cs hc => by obtain ⟨x, _, rfl⟩ := List.mem_map.1 hc; rfl) (i := i) (by simpa using hi) (j := j) hj
  unfold tabC; rw [this, List.getElem_map]; exact h
theorem agg_pe : AggT Tryz.prog 198 10 := ⟨⟨_, Tryz.underlying198, rfl⟩, by kernel_rfl⟩
theorem tabC_ld {w : World} {b o n c i : Nat} {l : List KE} (rd : RdS w 10 (some ⟨b, o, none⟩) n c (tabC l)) (hi : i < l.length) :
    (loadG 198 (.pointer (some ⟨b, o + i * 10, none⟩))).run Tryz.prog w = .ok (.agg (peC l[i]).toArray) w :=
  run_loadG agg_pe rfl (fun _ _ hu => rd.at2 (tabC_get hi hu))
theorem tabC_ln {w : World} {ao : Option Addr} {n c : Nat} {l : List KE} (rd : RdS w 10 ao n c (tabC l)) : l.length = n := by have := rd.len; rw [tabC_sz] at this; omega

section
variable {W w : World} {R : List HP} {post : Ending → World → Prop}

theorem isNaNs_c {x : ByteArray} (K : post (.returned (.bool false)) w) : Calls Tryz.prog 176 #[.string x] w post := by
  have HK := hid K; clear K
  go_enter Tryz.func176, Tryz.ntmps176
  go_wp2
  exact HK.out

theorem cmpK_c {x y : ByteArray} (K : post (.returned (.int .i64 (cmpK x y))) w) : Calls Tryz.prog 146 #[.string x, .string y] w post := by
  have HK := K; clear K
  unfold cmpK at HK
  cases h1 : kLt x y with
  | true =>
    rw [if_pos h1] at HK
    have HK2 := hid HK; clear HK
    have h1' : Op.bytesLess x.toList y.toList = true := h1
    go_enter Tryz.func146, Tryz.ntmps146
    go_wp2_with (go_at_call 176; refine isNaNs_c ?_)
    exact HK2.out
  | false =>
    rw [if_neg (by rw [h1]; simp)] at HK
    have h1' : Op.bytesLess x.toList y.toList = false := h1
    cases h2 : kLt y x with
    | true =>
      rw [if_pos h2] at HK
      have HK2 := hid HK; clear HK
      have h3' : (x.toList == y.toList) = false := by
        cases e : x.toList == y.toList with
        | false => rfl
        | true =>
          have e2 : x.data.toList = y.data.toList := by rw [← Lib.toList_data, ← Lib.toList_data]; exact beq_iff_eq.1 e
          rw [kb_inj e2, kLt_ord.irr] at h2; cases h2
      go_enter Tryz.func146, Tryz.ntmps146
      go_wp2_with (go_at_call 176; refine isNaNs_c ?_)
      exact HK2.out
    | false =>
      rw [if_neg (by rw [h2]; simp)] at HK
      have HK2 := hid HK; clear HK
      have e := kLt_ord.tri h1 h2
      subst e
      have h3' : (x.toList == x.toList) = true := beq_self_eq_true _
      go_enter Tryz.func146, Tryz.ntmps146
      go_wp2_with (go_at_call 176; refine isNaNs_c ?_)
      exact HK2.out

set_option maxRecDepth 100000 in
theorem findF_c {p : KE} {k : ByteArray} (st : St W w R) (K : ∀ w', St W w' R → post (.returned (.int .i64 (cmpK p.1 k))) w') : Calls Tryz.prog 145 #[.agg (peC p).toArray, .string k] w post := by
  have HK := hid K; clear K
  go_enter Tryz.func145, Tryz.ntmps145
  go_wp2_with (first
    | (refine wpl_boxA (vs := peC p) rfl (.tmp 0) rfl rfl st ?_; rintro T w1 s1; have c0 : w1.cell? ⟨T, 0, none⟩ = some (.string p.1) := (by have := s1.rowCell (i := 0) (v := .string p.1) rfl; rwa [Nat.zero_add] at this))
    | (go_at_call 146; refine cmpK_c ?_))
  exact HK.out _ s1.drop

end
attribute [local go_sem ↓] execOp_ldAny
section
variable {W w : World} {R : List HP} {post : Ending → World → Prop}

set_option maxRecDepth 100000 in
set_option maxHeartbeats 4000000 in
theorem bsfE_c {a : Option Addr} {n c : Nat} {l : List KE} {k : ByteArray} (hp : Rds W R 10 a n c (tabC l)) (hs : TSrt l) (hn : n ≤ 4096) (st : St W w R)
    (K : ∀ w', St W w' R → post (.returned (.tuple #[.int .i64 (rankK kLt Prod.fst l k : Nat), .bool (thas l k)])) w') :
    Calls Tryz.prog 144 #[.slice a n c, .string k, .func (.func 145) #[] #[]] w post := by
  have HK := hid K; clear K
  have HN : Hid (l.length = n) := hid (tabC_ln (hp w st))
  have hr : rankK kLt Prod.fst l k ≤ n := by rw [← HN.out]; exact rankK_le
  have HS := hid hs
  have HE : Hid (∀ i (h : i < l.length), i = rankK kLt Prod.fst l k → thas l k = decide (l[i].1 = k)) := hid (fun i h e => by subst e; exact hasK_at kLt_ord hs h)
  have HD : Hid (¬ rankK kLt Prod.fst l k < l.length → thas l k = false) := hid (hasK_end kLt_ord hs)
  have HL : Hid (∀ i (hi : i < l.length), i < rankK kLt Prod.fst l k → kLt l[i].1 k = true) := hid (fun i hi h => rankK_lt kLt_ord hs hi h)
  have HG : Hid (∀ i (hi : i < l.length), rankK kLt Prod.fst l k ≤ i → kLt l[i].1 k = false) := hid (fun i hi h => rankK_ge kLt_ord hs hi h)
  obtain ⟨r, hre⟩ : ∃ r, rankK kLt Prod.fst l k = r := ⟨_, rfl⟩
  rw [hre] at hr HK HL HG HD HE
  clear hre hs
  go_enter Tryz.func144, Tryz.ntmps144
  go_wp2_with fail
  go_loopw [9, 10] (fun ii jj wr => ∃ i j : Nat, i ≤ r ∧ r ≤ j ∧ j ≤ n ∧ ii = .int .i64 i ∧ jj = .int .i64 j ∧ St W wr R) (fun ii jj _ => (intOf jj).toNat - (intOf ii).toNat)
  case atStart => exact ⟨0, n, Nat.zero_le _, hr, Nat.le_refl _, rfl, rfl, st⟩
  case round =>
    obtain ⟨i, j, h1, h2, h3, rfl, rfl, sr⟩ := hrel
    have rd := hp _ sr
    by_cases hlt : i < j
    · obtain ⟨g3, o3, rfl⟩ := rd.addr (by omega)
      obtain ⟨m, hm⟩ : ∃ m, (i + j) / 2 = m := ⟨_, rfl⟩
      have hmI : ((i : Int) + (j : Int)) / 2 = (m : Int) := by omega
      have hmn : m < n := by omega
      have hiA : m < l.length := by rw [HN.out]; exact hmn
      have ci := tabC_ld rd hiA
      have HL1 := hid (HL.out m hiA); have HG1 := hid (HG.out m hiA)
      obtain ⟨q, hq⟩ : ∃ q, l[m] = q := ⟨_, rfl⟩
      rw [hq] at ci HL1 HG1
      clear hq rd
      cases hb : kLt q.1 k with
      | true =>
        have hv : decide (cmpK q.1 k < 0) = true := by rw [cmpK_lt, hb]
        have hmr : m < r := by
          rcases Nat.lt_or_ge m r with h | h
          · exact h
          · have := HG1.out h; rw [hb] at this; cases this
        obtain ⟨v, hve⟩ : ∃ v, cmpK q.1 k = v := ⟨_, rfl⟩
        have HV := hid hve
        rw [hve] at hv
        clear hve hb HL1 HG1
        go_wp2_with (go_at_call 145; refine findF_c sr ?_; rintro w6 s6; rw [HV.out])
        go_roundw
        case rel => exact ⟨m + 1, j, by omega, h2, h3, by go_num, rfl, s6⟩
        case measure => simp [intOf]; omega
      | false =>
        have hv : decide (cmpK q.1 k < 0) = false := by rw [cmpK_lt, hb]
        have hmr : r ≤ m := by
          rcases Nat.lt_or_ge m r with h | h
          · have := HL1.out h; rw [hb] at this; cases this
          · exact h
        obtain ⟨v, hve⟩ : ∃ v, cmpK q.1 k = v := ⟨_, rfl⟩
        have HV := hid hve
        rw [hve] at hv
        clear hve hb HL1 HG1
        go_wp2_with (go_at_call 145; refine findF_c sr ?_; rintro w6 s6; rw [HV.out])
        go_roundw
        case rel => exact ⟨i, m, h1, hmr, by omega, rfl, rfl, s6⟩
        case measure => simp [intOf]; omega
    · have e1 : i = r := by omega
      have e2 : j = r := by omega
      subst e1; subst e2
      by_cases hin : j < n
      · obtain ⟨g3, o3, rfl⟩ := rd.addr (by omega)
        have hiA : j < l.length := by rw [HN.out]; exact hin
        have ci := tabC_ld rd hiA
        have HE1 := hid (HE.out j hiA rfl)
        obtain ⟨q, hq⟩ : ∃ q, l[j] = q := ⟨_, rfl⟩
        rw [hq] at ci HE1
        clear hq rd
        obtain ⟨v, hve⟩ : ∃ v, cmpK q.1 k = v := ⟨_, rfl⟩
        have HV := hid hve
        have HZ : Hid ((v == 0) = thas l k) := hid (by rw [HE1.out, ← hve, cmpK_zero])
        clear hve HE1
        have hin2 : (j : Int) < (n : Int) := by omega
        go_wp2_with (go_at_call 145; refine findF_c sr ?_; rintro w6 s6; rw [HV.out])
        have := HK.out _ s6
        rw [← HZ.out] at this
        exact this
      · have hout : thas l k = false := HD.out (by rw [HN.out]; exact hin)
        have HO := hid hout
        clear hout rd
        have hin2 : ¬ (j : Int) < (n : Int) := by omega
        go_wp2_with fail
        have := HK.out _ sr
        rw [HO.out] at this
        exact this
end
end Go.Proofs.YtojfjbbggpfijaaGreatDoor

/- Tables of entries: what a key has, how many there are, what is put. -/
namespace Go.Proofs.YtojfjbbggpfijaaGreatDoor
open Go.RowKit Go.Qd

theorem zero_en (w : World) : (zeroValue 67).run Tryz.prog w = .ok (.agg EnV.zero.cells.toArray) w := by kernel_rfl
theorem env_one (x : EnV) : ∀ u ∈ x.cells, u.oneCell' = true := by
  intro u hu; simp only [EnV.cells, List.mem_cons, List.not_mem_nil, or_false] at hu
  rcases hu with rfl | rfl | rfl | rfl | rfl | rfl | rfl | rfl | rfl <;> rfl
theorem pe_one (x : KE) : ∀ u ∈ peC x, u.oneCell' = true := by
  intro u hu
  rcases List.mem_cons.1 hu with rfl | hu
  · rfl
  · exact env_one _ u hu

/-- A table of entries. -/
def TabE (b o : Nat) (room : Int) (l : List KE) : HP := fun h => ∃ x : Option Addr × Nat × Nat, sepL [row b o [.int .i64 room, .slice x.1 x.2.1 x.2.2], OwnS 10 x.1 x.2.1 x.2.2 (tabC l)] h

section
variable {W w : World} {R : List HP} {post : Ending → World → Prop} {b o : Nat} {room : Int} {l : List KE} {k : ByteArray}

theorem TabE.open (st : St W w (TabE b o room l :: R)) : ∃ ao n c, St W w (row b o [.int .i64 room, .slice ao n c] :: OwnS 10 ao n c (tabC l) :: R) := by
  obtain ⟨x, s⟩ := St.ex (F := fun (x : Option Addr × Nat × Nat) h => sepL [row b o [.int .i64 room, .slice x.1 x.2.1 x.2.2], OwnS 10 x.1 x.2.1 x.2.2 (tabC l)] h) st
  exact ⟨_, _, _, (St.flat _).1 s⟩
theorem TabE.close {ao : Option Addr} {n c : Nat} (st : St W w (row b o [.int .i64 room, .slice ao n c] :: OwnS 10 ao n c (tabC l) :: R)) : St W w (TabE b o room l :: R) :=
  ((St.flat [row b o [.int .i64 room, .slice ao n c], OwnS 10 ao n c (tabC l)]).2 st).imp fun _ x => ⟨(ao, n, c), x⟩
theorem rowTwo {x y : Value} (s : St W w (row b o [x, y] :: R)) : w.cell? ⟨b, o, none⟩ = some x ∧ w.cell? ⟨b, o + 1, none⟩ = some y ∧ w.frozen? ⟨b, o + 1, none⟩ = false :=
  ⟨by have := s.rowCell (i := 0) rfl; exact this, s.rowCell (i := 1) rfl, s.rowFree (i := 1) (by simp)⟩

theorem tget_has {l : List KE} {k : ByteArray} (hs : TSrt l) (h : thas l k = true) : ∃ x : KE, l[rankK kLt Prod.fst l k]? = some x ∧ x.1 = k ∧ tget l k = x.2 := by
  obtain ⟨x, h1, h2, h3, _⟩ := rankK_has kLt_ord hs h
  exact ⟨x, h1, h2, by unfold tget; rw [h3]; rfl⟩
theorem tget_no {l : List KE} {k : ByteArray} (h : thas l k = false) : tget l k = EnV.zero := by
  unfold tget; rw [getK_none.2 h]; rfl

set_option maxRecDepth 100000 in
theorem findE_c (hs : TSrt l) (hn : l.length ≤ 4096) (st : St W w (TabE b 0 room l :: R))
    (K : ∀ w', St W w' (TabE b 0 room l :: R) → post (.returned (.tuple #[.int .i64 (rankK kLt Prod.fst l k : Nat), .bool (thas l k)])) w') :
    Calls Tryz.prog 92 #[.pointer (some ⟨b, 0, none⟩), .string k] w post := by
  have HK := hid K; clear K
  obtain ⟨ao, n, c, s⟩ := TabE.open st
  obtain ⟨h0, h1, _⟩ := rowTwo s
  rw [Nat.zero_add] at h1
  have hr : Rds W (row b 0 [.int .i64 room, .slice ao n c] :: OwnS 10 ao n c (tabC l) :: R) 10 ao n c (tabC l) := fun w' s' => OwnS.rd (St.pick 1 s')
  have hln : l.length = n := tabC_ln (hr w s)
  rw [hln] at hn
  clear hln
  have HR := hid hr
  clear hr
  go_enter Tryz.func92, Tryz.ntmps92
  go_wp2_with (go_at_call 144; refine bsfE_c HR.out hs hn s ?_; rintro w6 s6)
  exact HK.out _ (TabE.close s6)

set_option maxRecDepth 100000 in
set_option maxHeartbeats 1000000 in
theorem getE_c (hs : TSrt l) (hn : l.length ≤ 4096) (st : St W w (TabE b 0 room l :: R))
    (K : ∀ w', St W w' (TabE b 0 room l :: R) → post (.returned (.tuple #[.agg (tget l k).cells.toArray, .bool (thas l k)])) w') :
    Calls Tryz.prog 44 #[.pointer (some ⟨b, 0, none⟩), .string k] w post := by
  have HK := hid K; clear K
  obtain ⟨r, hre⟩ : ∃ r, rankK kLt Prod.fst l k = r := ⟨_, rfl⟩
  have HR := hid hre
  cases hh : thas l k with
  | true =>
    obtain ⟨x, hx1, hx2, hx3⟩ := tget_has hs hh
    rw [hx3, hh] at HK
    rw [hre] at hx1
    have HX := hid hx1
    have HH := hid hh
    clear hre hx1 hx2 hx3 hh
    go_enter Tryz.func44, Tryz.ntmps44
    go_wp2_with (first
      | (refine wpl_allocA rfl rfl zero_en st ?_; rintro T w1 s1)
      | (refine wpl_allocA rfl rfl zero_en s1 ?_; rintro U w2 s2)
      | (go_at_call 92; refine findE_c hs hn (St.pick 2 s2) ?_; rintro w3 s3; rw [HR.out, HH.out]
         obtain ⟨ao, n, c, s4⟩ := TabE.open s3
         obtain ⟨h0, h1, _⟩ := rowTwo s4
         rw [Nat.zero_add] at h1
         have rd := OwnS.rd (St.pick 1 s4)
         have hln := tabC_ln rd
         have hrn : r < n := by rw [← hln]; exact (List.getElem?_eq_some_iff.1 HX.out).1
         obtain ⟨g, o, rfl⟩ := rd.addr (by omega)
         have hc : ∀ j u, x.2.cells[j]? = some u → w3.cell? ⟨g, o + r * 10 + 1 + j, none⟩ = some u := (fun j u hu => by
           have h9 := List.getElem?_eq_some_iff.1 HX.out
           have := rd.at2 (i := r * 10) (j := 1 + j) (tabC_get (j := 1 + j) h9.1 (by rw [h9.2, Nat.add_comm]; exact hu))
           rwa [← Nat.add_assoc] at this)
         have HC := hid hc
         clear hc)
      | (refine wpl_loadA (vs := x.2.cells) rfl (.tmp 24) (by rfl) agg_en (by rfl) rfl HC.out ?_)
      | (refine wpl_storeA (vs := x.2.cells) rfl (.tmp 4) (.tmp 25) (by rfl) agg_en (by rfl) (by rfl) rfl (env_one _) (St.pick 3 s4) rfl ?_; rintro w5 s5))
    have hL := run_loadA agg_en rfl s5.rowAll
    refine bodyPost_ret (v := .tuple #[.agg x.2.cells.toArray, .bool true]) (by simp [results, Tryz.results44, asAddr, hL]) rfl (HK.out _ ?_)
    exact TabE.close ((s5.perm [0, 2]).dropN 2)
  | false =>
    rw [tget_no hh, hh] at HK
    have HH := hid hh
    clear hre hh
    go_enter Tryz.func44, Tryz.ntmps44
    go_wp2_with (first
      | (refine wpl_allocA rfl rfl zero_en st ?_; rintro T w1 s1)
      | (refine wpl_allocA rfl rfl zero_en s1 ?_; rintro U w2 s2)
      | (go_at_call 92; refine findE_c hs hn (St.pick 2 s2) ?_; rintro w3 s3; rw [HR.out, HH.out])
      | (refine wpl_loadA (vs := EnV.zero.cells) rfl (.tmp 6) (by rfl) agg_en (by rfl) rfl (St.pick 1 s3).rowAll ?_)
      | (refine wpl_storeA (vs := EnV.zero.cells) rfl (.tmp 4) (.tmp 17) (by rfl) agg_en (by rfl) (by rfl) rfl (env_one _) (St.pick 2 s3) rfl ?_; rintro w5 s5))
    have hL := run_loadA agg_en rfl s5.rowAll
    refine bodyPost_ret (v := .tuple #[.agg EnV.zero.cells.toArray, .bool false]) (by simp [results, Tryz.results44, asAddr, hL]) rfl (HK.out _ ?_)
    exact (s5.perm [0, 1]).dropN 2

theorem lenE_c (_hn : l.length ≤ 4096) (st : St W w (TabE b 0 room l :: R)) (K : post (.returned (.int .i64 (l.length : Nat))) w) : Calls Tryz.prog 148 #[.pointer (some ⟨b, 0, none⟩)] w post := by
  have HK := hid K; clear K
  obtain ⟨ao, n, c, s⟩ := TabE.open st
  obtain ⟨h0, h1, _⟩ := rowTwo s
  rw [Nat.zero_add] at h1
  have hln : l.length = n := tabC_ln (OwnS.rd (St.pick 1 s))
  rw [hln] at HK
  clear hln
  go_enter Tryz.func148, Tryz.ntmps148
  go_wp2_with fail
  exact HK.out

theorem roomE_c (st : St W w (TabE b 0 room l :: R)) (K : post (.returned (.int .i64 room)) w) : Calls Tryz.prog 149 #[.pointer (some ⟨b, 0, none⟩)] w post := by
  have HK := hid K; clear K
  obtain ⟨ao, n, c, s⟩ := TabE.open st
  obtain ⟨h0, h1, _⟩ := rowTwo s
  go_enter Tryz.func149, Tryz.ntmps149
  go_wp2_with fail
  exact HK.out

end
end Go.Proofs.YtojfjbbggpfijaaGreatDoor
