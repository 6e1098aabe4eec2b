/- RumsA: several texts, joined. A mill's rumors in plain Lean: what heating, echoes and keeping do to them, and what stays so. -/
import Derived.Test.YtojfjbbggpfijaaGreatDoorRumsO
import Derived.Test.YtojfjbbggpfijaaGreatDoorKeys
import Derived.Test.YtojfjbbggpfijaaGreatDoorTabsA
import Derived.Lib.Strings
namespace Go.Proofs.YtojfjbbggpfijaaGreatDoor
open Go.RowKit Go.Qd

def keyNe (k : ByteArray) (t : TkV) : Bool := !(t.m.key.toList == k.toList)
/-- The rumors behind an entry that is heated. -/
def heatL (H : Int) (l : List TkV) (e : EnV) : List TkV :=
  if checkE e ≠ 0 then l else if H < (((l.filter (keyNe e.key)).length + 1 : Nat) : Int) then (l.filter (keyNe e.key) ++ [(⟨e.mark, 0⟩ : TkV)]).drop 1 else l.filter (keyNe e.key) ++ [(⟨e.mark, 0⟩ : TkV)]
def mkEq (a b : MkV) : Bool := decide (a.c = b.c) && (decide (a.s = b.s) && decide (a.key.toList = b.key.toList))
/-- The rumors behind an echo. -/
def bumpL (L : Int) (l : List TkV) (k : MkV) : List TkV := match l.findIdx? (fun t => mkEq t.m k) with
  | none => l
  | some i => (l.set i ⟨(l.getD i ⟨k, 0⟩).m, (l.getD i ⟨k, 0⟩).n + 1⟩).filter fun t => decide (t.n < L)

structure HotI (H L : Int) (l : List TkV) : Prop where
  len : (l.length : Int) ≤ H
  keys : (l.map (·.m.key)).Nodup
  cnt : ∀ t ∈ l, 0 ≤ t.n ∧ t.n < L
  good : ∀ t ∈ l, markB t.m = true

theorem HotI.nil {H L : Int} (h : 0 ≤ H) : HotI H L [] := ⟨by simpa using h, List.nodup_nil, fun _ h => (by cases h), fun _ h => (by cases h)⟩
theorem HotI.sub {H L : Int} {l m : List TkV} (h : HotI H L l) (hs : m.Sublist l) : HotI H L m :=
  ⟨Int.le_trans (by exact_mod_cast hs.length_le) h.len, (hs.map _).nodup h.keys, fun t ht => h.cnt t (hs.subset ht), fun t ht => h.good t (hs.subset ht)⟩
theorem HotI.keep {H L : Int} {l : List TkV} (h : HotI H L l) (g : TkV → Bool) : HotI H L (l.filter g) := h.sub List.filter_sublist
theorem check_mark {e : EnV} (h : checkE e = 0) : markB e.mark = true := by
  unfold checkE at h
  split at h
  · cases h
  · rename_i h1
    split at h
    · cases h
    · split at h
      · cases h
      · rename_i h3
        unfold markB EnV.mark
        simp only [Bool.or_eq_true, decide_eq_true_eq, Bool.not_eq_true', not_or, Bool.not_eq_false] at h1 h3 ⊢
        rw [h3.2.1]
        simp
        omega
theorem HotI.heat {H L : Int} {l : List TkV} (h : HotI H L l) (hH : 1 ≤ H) (hL : 1 ≤ L) (e : EnV) : HotI H L (heatL H l e) := by
  unfold heatL
  split
  · exact h
  · rename_i hc
    have hc0 : checkE e = 0 := Classical.not_not.1 hc
    have hf := h.keep (keyNe e.key)
    have hk : e.mark.key = e.key := rfl
    have hn : ((l.filter (keyNe e.key) ++ [(⟨e.mark, 0⟩ : TkV)]).map (·.m.key)).Nodup := by
      rw [List.map_append, List.nodup_append]
      refine ⟨hf.keys, by simp, ?_⟩
      intro a ha b hb
      obtain ⟨t, ht, rfl⟩ := List.mem_map.1 ha
      have hb2 : b = e.key := by simpa [hk] using hb
      have hne := (List.mem_filter.1 ht).2
      unfold keyNe at hne
      intro heq
      rw [hb2] at heq
      rw [heq] at hne
      simp at hne
    have hcn : ∀ t ∈ l.filter (keyNe e.key) ++ [(⟨e.mark, 0⟩ : TkV)], 0 ≤ t.n ∧ t.n < L := by
      intro t ht
      rcases List.mem_append.1 ht with g | g
      · exact hf.cnt t g
      · rw [List.mem_singleton.1 g]; exact ⟨Int.le_refl _, by show (0 : Int) < L; omega⟩
    have hgd : ∀ t ∈ l.filter (keyNe e.key) ++ [(⟨e.mark, 0⟩ : TkV)], markB t.m = true := by
      intro t ht
      rcases List.mem_append.1 ht with g | g
      · exact hf.good t g
      · rw [List.mem_singleton.1 g]; exact check_mark hc0
    split
    · rename_i hlt
      have hs : (List.drop 1 (l.filter (keyNe e.key) ++ [(⟨e.mark, 0⟩ : TkV)])).Sublist (l.filter (keyNe e.key) ++ [(⟨e.mark, 0⟩ : TkV)]) := List.drop_sublist 1 _
      refine ⟨?_, (hs.map _).nodup hn, fun t ht => hcn t (hs.subset ht), fun t ht => hgd t (hs.subset ht)⟩
      have := hf.len
      rw [List.length_drop, List.length_append, List.length_singleton]
      omega
    · rename_i hlt
      refine ⟨?_, hn, hcn, hgd⟩
      rw [List.length_append, List.length_singleton]
      omega
theorem HotI.bump {H L : Int} {l : List TkV} (h : HotI H L l) (k : MkV) : HotI H L (bumpL L l k) := by
  unfold bumpL
  split
  · exact h
  · rename_i i hi
    have hil : i < l.length := by
      have := List.findIdx?_eq_some_iff_getElem.1 hi
      exact this.1
    have hg : l.getD i ⟨k, 0⟩ = l[i] := by simp [hil]
    rw [hg]
    have hmap : ((l.set i ⟨l[i].m, l[i].n + 1⟩).map (·.m.key)) = l.map (·.m.key) := by
      rw [List.map_set]
      apply List.ext_getElem
      · simp
      · intro j h1 h2
        rw [List.getElem_set]
        split
        · rename_i hj; subst hj; simp
        · rfl
    refine ⟨?_, ?_, ?_, ?_⟩
    · refine Int.le_trans ?_ h.len
      have := (List.filter_sublist (l := l.set i ⟨l[i].m, l[i].n + 1⟩) (p := fun t => decide (t.n < L))).length_le
      rw [List.length_set] at this
      exact_mod_cast this
    · refine (List.Sublist.map _ List.filter_sublist).nodup ?_
      rw [hmap]; exact h.keys
    · intro t ht
      obtain ⟨h1, h2⟩ := List.mem_filter.1 ht
      refine ⟨?_, by simpa using h2⟩
      rcases List.mem_or_eq_of_mem_set h1 with g | g
      · exact (h.cnt t g).1
      · rw [g]; have := (h.cnt l[i] (List.getElem_mem hil)).1; show 0 ≤ l[i].n + 1; omega
    · intro t ht
      rcases List.mem_or_eq_of_mem_set (List.mem_filter.1 ht).1 with g | g
      · exact h.good t g
      · rw [g]; exact h.good l[i] (List.getElem_mem hil)
end Go.Proofs.YtojfjbbggpfijaaGreatDoor

/- A mill: IndexFunc and DeleteFunc over rumors. Printed by mkRumK.py. -/
namespace Go.Proofs.YtojfjbbggpfijaaGreatDoor
open Go.RowKit Go.Qd RepV

section
/-- A whole element of an owned slice is written. -/
theorem wpl_storeE {P : Program} {W w : World} {R : List HP} {t : TypeId} {sz n c b o : Nat} {vs cs : List Value} {ops : Array Oper} {rest : List Oper} {q : Oper} {A : Act} {Q : Exit → Act → World → Prop}
    (hgd : q.guard = none) (x y : Operand) (hop : q.op = Op.store t x y) (T : AggT P t sz) {j : Nat} (hx : A.eval x = .pointer (some ⟨b, o + j * sz, none⟩)) (hy : A.eval y = .agg vs.toArray) (hl : vs.length = sz) (h1 : ∀ u ∈ vs, u.oneCell' = true)
    (s : St W w (OwnS sz (some ⟨b, o, none⟩) n c cs :: R)) (hj : j < n) (hK : ∀ w', St W w' (OwnS sz (some ⟨b, o, none⟩) n c (cs.take (j * sz) ++ vs ++ cs.drop ((j + 1) * sz)) :: R) → wpList P ops Q rest (A.put q.dst undef) w') : wpList P ops Q (q :: rest) A w := by
  refine wpList_plain hgd fun K hK' => ?_
  obtain ⟨sp, p, s1⟩ := OwnS.open s
  have s1' : St W w (row b o (cs ++ sp) :: R) := s1
  have hj1 : (j + 1) * sz ≤ n * sz := Nat.mul_le_mul_right _ hj
  have hj2 : (j + 1) * sz = j * sz + sz := by rw [Nat.add_mul, Nat.one_mul]
  have hcl := p.len
  obtain ⟨h2, s2⟩ := run_storeA T hl h1 s1' (p := j * sz) (by rw [List.length_append]; omega)
  have e : splice (cs ++ sp) (j * sz) vs = (cs.take (j * sz) ++ vs ++ cs.drop ((j + 1) * sz)) ++ sp := by
    unfold splice
    rw [hl, ← hj2, List.take_append_of_le_length (by omega), List.drop_append_of_le_length (by omega)]
    simp only [List.append_assoc]
  rw [e] at s2
  unfold Oper.wp
  have h2' : (storeVar t ⟨b, o + j * sz, none⟩ (.agg vs.toArray)).run P w = .ok () (w.setCells b (o + j * sz) vs) := h2
  simp [execOp, hop, hx, hy, Instr.storeAt, Instr.sureAddr, h2', Result.andThen]
  refine hK' _ _ (hK _ (OwnS.close (sp := sp) ⟨?_, p.spare, p.le, p.max, by simp, fun _ => ⟨_, _, rfl⟩, ?_⟩ s2))
  · rw [List.length_append, List.length_append, List.length_take, List.length_drop, hl]; omega
  · intro u hu
    rcases List.mem_append.1 hu with g | g
    · rcases List.mem_append.1 g with g | g
      · exact p.one u (List.mem_of_mem_take g)
      · exact h1 u g
    · exact p.one u (List.mem_of_mem_drop g)
end

theorem tkC_app (a b : List TkV) : tkC (a ++ b) = tkC a ++ tkC b := by simp [tkC]
theorem tkC_sz (l : List TkV) : (tkC l).length = l.length * 4 := by
  induction l with
  | nil => rfl
  | cons x l ih => show (TkV.cells x ++ tkC l).length = _; rw [List.length_append, ih, List.length_cons]; have : (TkV.cells x).length = 4 := rfl; omega
theorem tkC_ln {w : World} {ao : Option Addr} {n c : Nat} {l : List TkV} (rd : RdS w 4 ao n c (tkC l)) : l.length = n := by have := rd.len; rw [tkC_sz] at this; omega
theorem tkC_get {l : List TkV} {i : Nat} (hi : i < l.length) {j : Nat} {u : Value} (h : (TkV.cells l[i])[j]? = some u) : (tkC l)[i * 4 + j]? = some u := by
  have hj : j < 4 := by
    rcases Nat.lt_or_ge j 4 with g | g
    · exact g
    · rw [List.getElem?_eq_none (by have : (TkV.cells l[i]).length = 4 := rfl; omega)] at h; cases h
  have := flat_get (css := l.map TkV.cells) (sz := 4) (fun cs hc => by obtain ⟨x, _, rfl⟩ := List.mem_map.1 hc; rfl) (i := i) (by simpa using hi) (j := j) hj
  unfold tkC; rw [this, List.getElem_map]; exact h
theorem tkC_ld {w : World} {b o n c i : Nat} {l : List TkV} (rd : RdS w 4 (some ⟨b, o, none⟩) n c (tkC l)) (hi : i < l.length) :
    (loadG 139 (.pointer (some ⟨b, o + i * 4, none⟩))).run Tryz.prog w = .ok (.agg (TkV.cells l[i]).toArray) w := run_loadG agg_tk rfl (fun _ _ hu => rd.at2 (tkC_get hi hu))
theorem tkC_take {l : List TkV} (i : Nat) : (tkC l).take (i * 4) = tkC (l.take i) := by
  induction l generalizing i with
  | nil => simp [tkC]
  | cons x l ih =>
    cases i with
    | zero => simp [tkC]
    | succ i =>
      have hx : (TkV.cells x).length = 4 := rfl
      have e : tkC (x :: l) = TkV.cells x ++ tkC l := by simp [tkC]
      have e2 : tkC (x :: l.take i) = TkV.cells x ++ tkC (l.take i) := by simp [tkC]
      rw [List.take_succ_cons, e, e2, ← ih i, show (i + 1) * 4 = (TkV.cells x).length + i * 4 by rw [hx]; omega, List.take_length_add_append]
theorem tkC_drop {l : List TkV} (i : Nat) : (tkC l).drop (i * 4) = tkC (l.drop i) := by
  induction l generalizing i with
  | nil => simp [tkC]
  | cons x l ih =>
    cases i with
    | zero => simp [tkC]
    | succ i =>
      have hx : (TkV.cells x).length = 4 := rfl
      have e : tkC (x :: l) = TkV.cells x ++ tkC l := by simp [tkC]
      rw [List.drop_succ_cons, e, ← ih i, show (i + 1) * 4 = (TkV.cells x).length + i * 4 by rw [hx]; omega, List.drop_length_add_append]
section
variable {W w : World} {R : List HP} {post : Ending → World → Prop}

section
attribute [local go_sem ↓] execOp_ldAny
set_option maxRecDepth 100000 in
set_option maxHeartbeats 4000000 in
/-- The first element of which a predicate is true, or -1. -/
theorem tkIdxKeep_c {a : Option Addr} {n cp : Nat} {l : List TkV} {g : TkV → Bool} {v : Value} {A : HP} (hf : ∀ x, PredT W A 104 v x (g x)) (st : St W w (OwnS 4 a n cp (tkC l) :: A :: R))
    (K0 : ∀ w', l.all (fun x => !g x) = true → St W w' (OwnS 4 a n cp (tkC l) :: A :: R) → post (.returned (.int .i64 (-1))) w')
    (K1 : ∀ (i : Nat) w', (∃ h : i < l.length, g l[i] = true) → (l.take i).all (fun x => !g x) = true → St W w' (OwnS 4 a n cp (tkC l) :: A :: R) → post (.returned (.int .i64 i)) w') :
    Calls Tryz.prog 87 #[.slice a n cp, .func (.func 104) #[] #[v]] w post := by
  have HK0 := hid K0; have HK1 := hid K1; clear K0 K1
  have HF := hid hf; clear hf
  have hl : l.length = n := tkC_ln (OwnS.rd st)
  have HL := hid hl
  have hbig := (OwnS.rd st).big
  clear hl
  go_enter Tryz.func87, Tryz.ntmps87
  go_wp2_with fail
  go_loopw [8] (fun ii wr => ∃ i : Nat, i ≤ n ∧ ii = .int .i64 i ∧ Hid ((l.take i).all (fun x => !g x) = true) ∧ St W wr (OwnS 4 a n cp (tkC l) :: A :: R)) (fun ii _ => n - (intOf ii).toNat)
  case atStart => exact ⟨0, Nat.zero_le _, rfl, hid rfl, st⟩
  case round =>
    obtain ⟨i, hi, rfl, HA, sr⟩ := hrel
    by_cases hlt : i < n
    · have hi2 : (i : Int) < (n : Int) := by omega
      have hiL : i < l.length := by rw [HL.out]; exact hlt
      have rd := OwnS.rd sr
      obtain ⟨gb, go, rfl⟩ := rd.addr (by omega)
      have l0 := tkC_ld rd hiL
      have HT : Hid ((l.take (i + 1)).all (fun x => !g x) = (!g l[i])) := hid (by rw [List.take_succ_eq_append_getElem hiL, List.all_append, HA.out]; simp)
      have HX : Hid (∀ x, l[i] = x → ∃ h : i < l.length, l[i] = x) := hid (fun x h => ⟨hiL, h⟩)
      obtain ⟨x, hx⟩ : ∃ x, l[i] = x := ⟨_, rfl⟩
      have HX2 := hid (HX.out x hx)
      rw [hx] at l0 HT
      obtain ⟨b, hb⟩ : ∃ b, g x = b := ⟨_, rfl⟩
      have HB := hid hb
      rw [hb] at HT
      clear hx rd hiL HX hb
      cases b with
      | true =>
        go_wp2_with (go_at_call 104; refine HF.out x _ _ _ (St.pick 1 sr) ?_; rintro w2 s2; rw [HB.out])
        exact HK1.out i _ (by obtain ⟨h, e⟩ := HX2.out; exact ⟨h, by rw [e]; exact HB.out⟩) HA.out (St.pick 1 s2)
      | false =>
        go_wp2_with (go_at_call 104; refine HF.out x _ _ _ (St.pick 1 sr) ?_; rintro w2 s2; rw [HB.out])
        go_roundw
        case rel => exact ⟨i + 1, by omega, by go_num, hid HT.out, St.pick 1 s2⟩
        case measure => simp [intOf]; omega
    · have hie : i = n := by omega
      subst hie
      have ha := HA.out
      rw [List.take_of_length_le (by rw [HL.out]; exact Nat.le_refl _)] at ha
      have HA2 := hid ha; clear ha
      go_wp2_with fail
      exact HK0.out _ HA2.out sr
end

section
attribute [local go_sem ↓] execOp_ldAny
set_option maxRecDepth 100000 in
set_option maxHeartbeats 4000000 in
/-- The first element of which a predicate is true, or -1. -/
theorem tkIdxEcho_c {a : Option Addr} {n cp : Nat} {l : List TkV} {g : TkV → Bool} {v : Value} {A : HP} (hf : ∀ x, PredT W A 88 v x (g x)) (st : St W w (OwnS 4 a n cp (tkC l) :: A :: R))
    (K0 : ∀ w', l.all (fun x => !g x) = true → St W w' (OwnS 4 a n cp (tkC l) :: A :: R) → post (.returned (.int .i64 (-1))) w')
    (K1 : ∀ (i : Nat) w', (∃ h : i < l.length, g l[i] = true) → (l.take i).all (fun x => !g x) = true → St W w' (OwnS 4 a n cp (tkC l) :: A :: R) → post (.returned (.int .i64 i)) w') :
    Calls Tryz.prog 87 #[.slice a n cp, .func (.func 88) #[] #[v]] w post := by
  have HK0 := hid K0; have HK1 := hid K1; clear K0 K1
  have HF := hid hf; clear hf
  have hl : l.length = n := tkC_ln (OwnS.rd st)
  have HL := hid hl
  have hbig := (OwnS.rd st).big
  clear hl
  go_enter Tryz.func87, Tryz.ntmps87
  go_wp2_with fail
  go_loopw [8] (fun ii wr => ∃ i : Nat, i ≤ n ∧ ii = .int .i64 i ∧ Hid ((l.take i).all (fun x => !g x) = true) ∧ St W wr (OwnS 4 a n cp (tkC l) :: A :: R)) (fun ii _ => n - (intOf ii).toNat)
  case atStart => exact ⟨0, Nat.zero_le _, rfl, hid rfl, st⟩
  case round =>
    obtain ⟨i, hi, rfl, HA, sr⟩ := hrel
    by_cases hlt : i < n
    · have hi2 : (i : Int) < (n : Int) := by omega
      have hiL : i < l.length := by rw [HL.out]; exact hlt
      have rd := OwnS.rd sr
      obtain ⟨gb, go, rfl⟩ := rd.addr (by omega)
      have l0 := tkC_ld rd hiL
      have HT : Hid ((l.take (i + 1)).all (fun x => !g x) = (!g l[i])) := hid (by rw [List.take_succ_eq_append_getElem hiL, List.all_append, HA.out]; simp)
      have HX : Hid (∀ x, l[i] = x → ∃ h : i < l.length, l[i] = x) := hid (fun x h => ⟨hiL, h⟩)
      obtain ⟨x, hx⟩ : ∃ x, l[i] = x := ⟨_, rfl⟩
      have HX2 := hid (HX.out x hx)
      rw [hx] at l0 HT
      obtain ⟨b, hb⟩ : ∃ b, g x = b := ⟨_, rfl⟩
      have HB := hid hb
      rw [hb] at HT
      clear hx rd hiL HX hb
      cases b with
      | true =>
        go_wp2_with (go_at_call 88; refine HF.out x _ _ _ (St.pick 1 sr) ?_; rintro w2 s2; rw [HB.out])
        exact HK1.out i _ (by obtain ⟨h, e⟩ := HX2.out; exact ⟨h, by rw [e]; exact HB.out⟩) HA.out (St.pick 1 s2)
      | false =>
        go_wp2_with (go_at_call 88; refine HF.out x _ _ _ (St.pick 1 sr) ?_; rintro w2 s2; rw [HB.out])
        go_roundw
        case rel => exact ⟨i + 1, by omega, by go_num, hid HT.out, St.pick 1 s2⟩
        case measure => simp [intOf]; omega
    · have hie : i = n := by omega
      subst hie
      have ha := HA.out
      rw [List.take_of_length_le (by rw [HL.out]; exact Nat.le_refl _)] at ha
      have HA2 := hid ha; clear ha
      go_wp2_with fail
      exact HK0.out _ HA2.out sr
end

section
attribute [local go_sem ↓] execOp_ldAny
set_option maxRecDepth 100000 in
set_option maxHeartbeats 8000000 in
/-- The elements of which a predicate is true are taken out, in place. -/
theorem tkDel_c {a : Option Addr} {n cp : Nat} {l : List TkV} {g : TkV → Bool} {v : Value} {A : HP} (hn : n ≤ 4096) (hf : ∀ x, PredT W A 104 v x (g x)) (st : St W w (OwnS 4 a n cp (tkC l) :: A :: R))
    (K : ∀ n' w', n' = (l.filter fun x => !g x).length → St W w' (OwnS 4 a n' cp (tkC (l.filter fun x => !g x)) :: A :: R) → post (.returned (.slice a n' cp)) w') :
    Calls Tryz.prog 103 #[.slice a n cp, .func (.func 104) #[] #[v]] w post := by
  have HK := hid K; clear K
  have HF := hid hf; clear hf
  have hl : l.length = n := tkC_ln (OwnS.rd st)
  have HL := hid hl
  clear hl
  go_enter Tryz.func103, Tryz.ntmps103
  go_wp2_with (go_at_call 87; refine tkIdxKeep_c HF.out st ?_ ?_; rotate_left; rintro i0 w2 he ha s2; have HE := hid he; have HA := hid ha; clear he ha; have hi0 : i0 < n := (by obtain ⟨h, _⟩ := HE.out; rw [HL.out] at h; exact h); have hi0i : (i0 : Int) < (n : Int) := (by omega); have d1 : ((i0 : Int) == -1) = false := (by rw [beq_eq_false_iff_ne]; omega); rotate_left; rintro w2 ha s2; have HA := hid ha; clear ha)
  · exact HK.out n _ (by rw [List.filter_eq_self.2 (fun x hx => List.all_eq_true.1 HA.out x hx)]; exact HL.out.symm) (by rw [List.filter_eq_self.2 (fun x hx => List.all_eq_true.1 HA.out x hx)]; exact s2)
  go_loopw [5, 6] (fun ii jj wr => ∃ (i j : Nat) (L : List TkV), i < j ∧ j ≤ n ∧ ii = .int .i64 i ∧ jj = .int .i64 j ∧ Hid (L.length = n ∧ L.take i = (l.take j).filter (fun x => !g x) ∧ L.drop j = l.drop j) ∧ St W wr (OwnS 4 a n cp (tkC L) :: A :: R)) (fun _ jj _ => n - (intOf jj).toNat)
  case atStart =>
    refine ⟨i0, i0 + 1, l, by omega, by omega, rfl, by go_num, hid ⟨HL.out, ?_, rfl⟩, s2⟩
    obtain ⟨h, e⟩ := HE.out
    rw [List.take_succ_eq_append_getElem h, List.filter_append, List.filter_eq_self.2 (fun x hx => List.all_eq_true.1 HA.out x hx)]
    simp [e]
  case round =>
    obtain ⟨i, j, L, hij, hj, rfl, rfl, HI, sr⟩ := hrel
    clear hi0i d1 s2 hi0
    by_cases hlt : j < n
    · have hj2 : (j : Int) < (n : Int) := by omega
      have hjL : j < L.length := by rw [HI.out.1]; exact hlt
      have hjl : j < l.length := by rw [HL.out]; exact hlt
      have rd := OwnS.rd sr
      obtain ⟨gb, go, rfl⟩ := rd.addr (by omega)
      have l0 := tkC_ld rd hjL
      have hxx : l[j] = L[j] := by
        have h1 := List.drop_eq_getElem_cons hjL
        have h2 := List.drop_eq_getElem_cons hjl
        have h3 := HI.out.2.2
        rw [h1, h2] at h3
        exact (List.cons.inj h3).1.symm
      have HD : Hid (L.drop (j + 1) = l.drop (j + 1)) := hid (by
        have h1 := List.drop_eq_getElem_cons hjL
        have h2 := List.drop_eq_getElem_cons hjl
        have h3 := HI.out.2.2
        rw [h1, h2] at h3
        exact (List.cons.inj h3).2)
      have HT : Hid ((l.take (j + 1)).filter (fun x => !g x) = L.take i ++ if g L[j] = true then [] else [L[j]]) := hid (by
        rw [List.take_succ_eq_append_getElem hjl, List.filter_append, ← HI.out.2.1, hxx]
        cases hg : g L[j] <;> simp [hg])
      obtain ⟨x, hx⟩ : ∃ x, L[j] = x := ⟨_, rfl⟩
      rw [hx] at l0 HT
      obtain ⟨b, hb⟩ : ∃ b, g x = b := ⟨_, rfl⟩
      have HB := hid hb
      rw [hb] at HT
      have hiN : i < n := by omega
      have hi3 : (i : Int) < (n : Int) := by omega
      clear hx rd hjL hjl hxx hb
      cases b with
      | true =>
        go_wp2_with (first
          | (refine wpl_allocA (vs := [.int .i64 0, .int .i64 0, .string ByteArray.empty, .int .i64 0]) rfl rfl (fun _ => by kernel_rfl) sr ?_; rintro T w2 s2)
          | (refine wpl_storeA (vs := TkV.cells x) rfl (.tmp 7) (.tmp 25) (by rfl) agg_tk (by rfl) (by rfl) rfl (tk_one _) s2 rfl ?_; rintro w3 s3; have lT := run_loadG agg_tk (vs := TkV.cells x) rfl s3.rowAll)
          | (go_at_call 104; refine HF.out x _ _ _ (St.pick 2 s3) ?_; rintro w4 s4; rw [HB.out]))
        go_roundw
        case rel => exact ⟨i, j + 1, L, by omega, by omega, rfl, by go_num, hid ⟨HI.out.1, by rw [HT.out]; simp, HD.out⟩, ((s4.pick 1).drop).pick 1⟩
        case measure => simp [intOf]; omega
      | false =>
        go_wp2_with (first
          | (refine wpl_allocA (vs := [.int .i64 0, .int .i64 0, .string ByteArray.empty, .int .i64 0]) rfl rfl (fun _ => by kernel_rfl) sr ?_; rintro T w2 s2)
          | (refine wpl_storeA (vs := TkV.cells x) rfl (.tmp 7) (.tmp 25) (by rfl) agg_tk (by rfl) (by rfl) rfl (tk_one _) s2 rfl ?_; rintro w3 s3; have lT := run_loadG agg_tk (vs := TkV.cells x) rfl s3.rowAll)
          | (go_at_call 104; refine HF.out x _ _ _ (St.pick 2 s3) ?_; rintro w4 s4; rw [HB.out]; have lT4 := run_loadG agg_tk (vs := TkV.cells x) rfl (St.pick 1 s4).rowAll)
          | (refine wpl_storeE (j := i) rfl (.tmp 33) (.tmp 32) rfl agg_tk (by rfl) (by rfl) rfl (tk_one _) (s4.pick 2) hiN ?_; rintro w5 s5))
        go_roundw
        case rel =>
          have e : (tkC L).take (i * 4) ++ TkV.cells x ++ (tkC L).drop ((i + 1) * 4) = tkC (L.take i ++ [x] ++ L.drop (i + 1)) := by
            rw [tkC_take, tkC_drop, tkC_app, tkC_app]
            simp [tkC]
          rw [e] at s5
          have hLl := HI.out.1
          have e1 : (L.take i ++ [x]).length = i + 1 := by rw [List.length_append, List.length_take, List.length_singleton]; omega
          refine ⟨i + 1, j + 1, L.take i ++ [x] ++ L.drop (i + 1), by omega, by omega, by go_num, by go_num, hid ⟨?_, ?_, ?_⟩, (s5.perm [0, 0] |> fun s => (s.pick 2).drop)⟩
          · rw [List.length_append, e1, List.length_drop]; omega
          · rw [List.take_append_of_le_length (by omega), List.take_of_length_le (by omega), HT.out, if_neg (by decide)]
          · rw [List.drop_append, List.drop_of_length_le (by omega), List.nil_append, e1, List.drop_drop, ← HD.out]
            congr 1
            omega
        case measure => simp [intOf]; omega
    · have hje : j = n := by omega
      subst hje
      have hiN : i ≤ j := by omega
      obtain ⟨n2, hn2⟩ : ∃ n2, n2 + i = j := ⟨j - i, by omega⟩
      have hle := (OwnS.rd sr).le
      obtain ⟨ax, cx, ht, hs1⟩ := run_slice_from (P := Tryz.prog) Tryz.elem117 a j cp i n2 (i := (i : Int)) rfl hn2
      have hs2 := run_slice_to (P := Tryz.prog) Tryz.elem117 a j cp i (by omega)
      have s3 : St W wr (OwnS 4 a i cp (tkC (L.take i)) :: A :: R) := by
        have h := OwnS.short sr hiN
        rw [tkC_take] at h
        exact h
      have he : L.take i = l.filter (fun x => !g x) := by
        have h := HI.out.2.1
        rw [show l.take j = l from List.take_of_length_le (by rw [HL.out]; exact Nat.le_refl _)] at h
        exact h
      have hlen : i = (l.filter (fun x => !g x)).length := by rw [← he, List.length_take, HI.out.1]; omega
      rw [he] at s3
      have HT := hid ht; have HLE := hid hle; have HN := hid hlen; have HN2 := hid hn2
      clear ht hle he hlen hn2 hiN
      go_wp2_with (refine wpl_clear rfl _ rfl Tryz.elem117 rfl s3 (by have h1 := HLE.out; have h2 := HN2.out; omega) HT.out ?_; rintro w4 s4)
      exact HK.out i _ HN.out s4
end
end
end Go.Proofs.YtojfjbbggpfijaaGreatDoor

/- A mill: keep, whatever is asked of a rumor. Printed by mkRumL.py. -/
namespace Go.Proofs.YtojfjbbggpfijaaGreatDoor
open Go.RowKit Go.Qd RepV

theorem PredT.more {W : World} {A B : HP} {F : Nat} {v : Value} {x : TkV} {t : Bool} (h : PredT W A F v x t) : PredT W (sepL [A, B]) F v x t := by
  intro R' w1 p1 s0 K
  exact h (B :: R') w1 p1 ((St.flat [A, B]).1 s0) (fun w2 s2 => K w2 ((St.flat [A, B]).2 s2))
section
variable {W w : World} {R : List HP} {post : Ending → World → Prop} {c : List Int} {b rp dp : Nat}

theorem keep1_E2 {P : Nat} {x : TkV} {v : Value} {A : HP} {t : Bool} (hf : PredT W A 89 v x t) : PredT W (sepL [row P 0 [.func (.func 89) #[] #[v]], A]) 104 (.pointer (some ⟨P, 0, none⟩)) x (!t) := by
  intro R' w1 p1 s0 K
  have HK := hid K; clear K
  have HF := hid hf; clear hf
  have st : St W w1 (row P 0 [.func (.func 89) #[] #[v]] :: A :: R') := (St.flat [row P 0 [.func (.func 89) #[] #[v]], A]).1 s0
  have hL : x.cells.length = 4 := rfl
  go_enter Tryz.func104, Tryz.ntmps104
  go_wp2_with (first
    | (refine wpl_boxA (vs := x.cells) rfl (.tmp 0) rfl rfl st ?_; rintro T w2 s2; have c0 := row1c (St.pick 1 s2))
    | (refine wpl_loadA (vs := x.cells) rfl (.tmp 2) (by rfl) agg_tk (by rfl) rfl s2.rowAll ?_)
    | (go_at_call 89; refine HF.out _ _ _ (St.pick 2 s2) ?_; rintro w3 s3))
  exact HK.out _ ((St.flat [row P 0 [.func (.func 89) #[] #[v]], A]).2 ((s3.pick 1).drop.pick 1))

theorem keep1_H1 {P : Nat} {x : TkV} {v : Value} {A : HP} {t : Bool} (hf : PredT W A 52 v x t) : PredT W (sepL [row P 0 [.func (.func 52) #[] #[v]], A]) 104 (.pointer (some ⟨P, 0, none⟩)) x (!t) := by
  intro R' w1 p1 s0 K
  have HK := hid K; clear K
  have HF := hid hf; clear hf
  have st : St W w1 (row P 0 [.func (.func 52) #[] #[v]] :: A :: R') := (St.flat [row P 0 [.func (.func 52) #[] #[v]], A]).1 s0
  have hL : x.cells.length = 4 := rfl
  go_enter Tryz.func104, Tryz.ntmps104
  go_wp2_with (first
    | (refine wpl_boxA (vs := x.cells) rfl (.tmp 0) rfl rfl st ?_; rintro T w2 s2; have c0 := row1c (St.pick 1 s2))
    | (refine wpl_loadA (vs := x.cells) rfl (.tmp 2) (by rfl) agg_tk (by rfl) rfl s2.rowAll ?_)
    | (go_at_call 52; refine HF.out _ _ _ (St.pick 2 s2) ?_; rintro w3 s3))
  exact HK.out _ ((St.flat [row P 0 [.func (.func 52) #[] #[v]], A]).2 ((s3.pick 1).drop.pick 1))

/-- echo's second predicate. -/
theorem echo2_c {M n cp : Nat} {x : TkV} {a : Option Addr} (hc : c.length = 20) : PredT W (sepL [row M 0 [.pointer (some ⟨b, 0, none⟩)], row b 0 (millC rp c dp a n cp)]) 89 (.pointer (some ⟨M, 0, none⟩)) x (decide (x.n < c.getD 15 0)) := by
  intro R' w1 p1 s0 K
  have HK := hid K; clear K
  have st : St W w1 (row M 0 [.pointer (some ⟨b, 0, none⟩)] :: row b 0 (millC rp c dp a n cp) :: R') := (St.flat [row M 0 [.pointer (some ⟨b, 0, none⟩)], row b 0 (millC rp c dp a n cp)]).1 s0
  obtain ⟨z, hz⟩ : ∃ z, c.getD 15 0 = z := ⟨_, rfl⟩
  rw [hz] at HK
  obtain ⟨t, ht⟩ : ∃ t, decide (x.n < z) = t := ⟨_, rfl⟩
  rw [ht] at HK
  have HC := hid hc; have HZ := hid hz
  clear hc hz
  go_enter Tryz.func89, Tryz.ntmps89
  go_wp2_with (refine wpl_boxA (vs := x.cells) rfl (.tmp 0) rfl rfl st ?_; rintro T w2 s2; have c0 := row1c (St.pick 1 s2); have c1 : w2.cell? ⟨b, 16, none⟩ = some (.int .i64 z) := (by have := mill_cfg HC.out (St.pick 2 s2) (i := 15) (by decide); rw [HZ.out] at this; exact this); have c2 : w2.cell? ⟨T, 3, none⟩ = some (.int .i64 x.n) := (by have := s2.rowCell (i := 3) (v := .int .i64 x.n) rfl; rwa [Nat.zero_add] at this))
  go_quiet (fail)
  have s3 := s2.drewN nq
  generalize w2.drewN nq = w3 at s3 ⊢
  go_wp2_with fail
  exact HK.out _ ((St.flat [row M 0 [.pointer (some ⟨b, 0, none⟩)], row b 0 (millC rp c dp a n cp)]).2 s3.drop)

/-- Heat's predicate: another key? -/
theorem heat1_c {E : Nat} {x : TkV} {e : EnV} : PredT W (row E 0 e.cells) 52 (.pointer (some ⟨E, 0, none⟩)) x (!(x.m.key.toList == e.key.toList)) := by
  intro R' w1 p1 st K
  have HK := hid K; clear K
  go_enter Tryz.func52, Tryz.ntmps52
  go_wp2_with (refine wpl_boxA (vs := x.cells) rfl (.tmp 0) rfl rfl st ?_; rintro T w2 s2; have c0 : w2.cell? ⟨E, 0, none⟩ = some (.string e.key) := (by have := (St.pick 1 s2).rowCell (i := 0) (v := .string e.key) rfl; rwa [Nat.zero_add] at this); have c2 : w2.cell? ⟨T, 2, none⟩ = some (.string x.m.key) := (by have := s2.rowCell (i := 2) (v := .string x.m.key) rfl; rwa [Nat.zero_add] at this))
  exact HK.out _ s2.drop

set_option maxRecDepth 100000 in
set_option maxHeartbeats 4000000 in
/-- Only rumors stay of which something is so. -/
theorem keep_c {F n cp : Nat} {fs cs : Array Value} {a : Option Addr} {l : List TkV} {g : TkV → Bool} {B : HP} (hc : c.length = 20) (hn : n ≤ 4096)
    (hk : ∀ P x, PredT W (sepL [row P 0 [.func (.func F) fs cs], sepL [B, row b 0 (millC rp c dp a n cp)]]) 104 (.pointer (some ⟨P, 0, none⟩)) x (!g x))
    (st : St W w (OwnS 4 a n cp (tkC l) :: B :: row b 0 (millC rp c dp a n cp) :: R))
    (K : ∀ n' w', n' = (l.filter g).length → St W w' (OwnS 4 a n' cp (tkC (l.filter g)) :: B :: row b 0 (millC rp c dp a n' cp) :: R) → post (.returned (.tuple #[])) w') :
    Calls Tryz.prog 51 #[.pointer (some ⟨b, 0, none⟩), .func (.func F) fs cs] w post := by
  have HK := hid K; clear K
  have s1 := st.alloc #[.func (.func F) fs cs] 140
  have s2 : St W (w.alloc (.cells #[.func (.func F) fs cs] 140)) (OwnS 4 a n cp (tkC l) :: sepL [row w.heap.size 0 [.func (.func F) fs cs], sepL [B, row b 0 (millC rp c dp a n cp)]] :: R) := by
    have t1 := (St.flat [B, row b 0 (millC rp c dp a n cp)]).2 (s1.perm [2, 2])
    have t2 := (St.flat [row w.heap.size 0 [.func (.func F) fs cs], sepL [B, row b 0 (millC rp c dp a n cp)]]).2 (t1.pick 1)
    exact t2.pick 1
  obtain ⟨k0, k1, k2, k3⟩ := mill_at hc (St.pick 3 s1)
  have HC := hid hc
  have HP := hid (hk w.heap.size)
  have hff : l.filter (fun x => !(!g x)) = l.filter g := by simp
  have HFF := hid hff
  have Hm : ∀ fn first cap w, (Instr.makeFunc fn first cap).run Tryz.prog w = .ok (.func fn first cap) w := fun _ _ _ _ => rfl
  clear hc hk hff
  go_enter Tryz.func51, Tryz.ntmps51
  go_wp2_with (go_at_call 103; refine tkDel_c hn HP.out s2 ?_; rintro n3 w3 hn3 s3; rw [HFF.out] at hn3 s3
               have HN3 := hid hn3
               clear hn3
               have t1 := (St.flat [row w.heap.size 0 [.func (.func F) fs cs], sepL [B, row b 0 (millC rp c dp a n cp)]]).1 (s3.pick 1)
               have t2 : St W w3 (row b 0 (millC rp c dp a n cp) :: B :: row w.heap.size 0 [.func (.func F) fs cs] :: OwnS 4 a n3 cp (tkC (l.filter g)) :: R) := ((St.flat [B, row b 0 (millC rp c dp a n cp)]).1 (t1.pick 1)).pick 1
               obtain ⟨j0, j1, j2, j3⟩ := mill_at HC.out t2
               have s4 := t2.rowSet (i := 22) (by rw [mill_len HC.out]; decide) (.slice a n3 cp)
               rw [mill_set HC.out] at s4
               rw [Nat.zero_add] at s4)
  go_end0
  exact HK.out _ _ HN3.out ((((s4.pick 3).pick 3).drop).perm [0, 1])
end
end Go.Proofs.YtojfjbbggpfijaaGreatDoor

/- A mill: echo, whatever rumors there are. Printed by mkRumM.py. -/
namespace Go.Proofs.YtojfjbbggpfijaaGreatDoor
open Go.RowKit Go.Qd RepV

theorem tkC_set {l : List TkV} {i : Nat} (hi : i < l.length) (z : Int) : (tkC l).set (i * 4 + 3) (.int .i64 z) = tkC (l.set i ⟨l[i].m, z⟩) := by
  induction l generalizing i with
  | nil => simp at hi
  | cons x l ih =>
    have hx : (TkV.cells x).length = 4 := rfl
    have e : ∀ y m, tkC (y :: m) = TkV.cells y ++ tkC m := fun y m => by simp [tkC]
    cases i with
    | zero => simp only [List.set_cons_zero, e]; rw [List.set_append_left _ _ (by rw [hx]; decide)]; rfl
    | succ i =>
      simp only [List.set_cons_succ, e, List.getElem_cons_succ]
      rw [List.set_append_right _ _ (by rw [hx]; omega), hx, show (i + 1) * 4 + 3 - 4 = i * 4 + 3 by omega, ih (by simpa using hi)]
theorem first_one {l : List TkV} {g : TkV → Bool} {i j : Nat} (hi : ∃ h : i < l.length, g l[i] = true) (ha : (l.take i).all (fun x => !g x) = true) (hj : ∃ h : j < l.length, g l[j] = true) (hb : (l.take j).all (fun x => !g x) = true) : i = j := by
  obtain ⟨h1, e1⟩ := hi
  obtain ⟨h2, e2⟩ := hj
  rcases Nat.lt_trichotomy i j with h | h | h
  · have := List.all_eq_true.1 hb l[i] (List.mem_iff_getElem.2 ⟨i, by simp; omega, by simp⟩)
    rw [e1] at this; cases this
  · exact h
  · have := List.all_eq_true.1 ha l[j] (List.mem_iff_getElem.2 ⟨j, by simp; omega, by simp⟩)
    rw [e2] at this; cases this
section
variable {W w : World} {R : List HP} {post : Ending → World → Prop} {c : List Int} {b rp dp : Nat}
section
attribute [local go_sem ↓] execOp_ldAny execOp_eqM
/-- echo's first predicate. -/
theorem echoP1_c {M : Nat} {x : TkV} {k : MkV} : PredT W (row M 0 k.cells) 88 (.pointer (some ⟨M, 0, none⟩)) x (mkEq x.m k) := by
  intro R' w1 p1 st K
  have HK := hid K; clear K
  have gE : ∀ (y z : Operand) (w : World), (eqMG y z (.agg x.m.cells.toArray) (.agg k.cells.toArray)).run Tryz.prog w = .ok (.bool (mkEq x.m k)) w := by
    intro y z w
    obtain ⟨⟨a1, a2, a3⟩, a4⟩ := x
    obtain ⟨b1, b2, b3⟩ := k
    unfold eqMG MkV.cells mkEq
    go_simp
    by_cases h1 : a1 = b1
    · by_cases h2 : a2 = b2
      · by_cases h3 : a3 = b3
        · simp [h1, h2, h3]
        · have h4 : ¬ a3.toList = b3.toList := fun e => h3 (kb_inj (by rw [← Lib.toList_data, ← Lib.toList_data]; exact e))
          simp [h1, h2, h4]
      · simp [h1, h2]
    · simp [h1]
  go_enter Tryz.func88, Tryz.ntmps88
  go_wp2_with (refine wpl_boxA (vs := x.cells) rfl (.tmp 0) rfl rfl st ?_; rintro T w2 s2; have l0 := run_loadG agg54 (vs := x.m.cells) rfl (St.rowPart s2 0 (xs := x.m.cells) (ys := [.int .i64 x.n]) rfl); have l1 := run_loadG agg54 (vs := k.cells) rfl (St.pick 1 s2).rowAll)
  exact HK.out _ s2.drop
end

set_option maxRecDepth 100000 in
set_option maxHeartbeats 8000000 in
theorem echo_no {n cp : Nat} {a : Option Addr} {l : List TkV} {k : MkV} (hc : c.length = 20) (hno : ∀ x ∈ l, mkEq x.m k = false)
    (st : St W w (OwnS 4 a n cp (tkC l) :: row b 0 (millC rp c dp a n cp) :: R))
    (K : ∀ w', St W w' (OwnS 4 a n cp (tkC l) :: row b 0 (millC rp c dp a n cp) :: R) → post (.returned (.tuple #[])) w') :
    Calls Tryz.prog 40 #[.pointer (some ⟨b, 0, none⟩), .agg k.cells.toArray] w post := by
  have HK := hid K; clear K
  have HC := hid hc; have HN := hid hno
  have s1 := st.alloc #[.pointer (some ⟨b, 0, none⟩)] 31
  have Hm : ∀ fn first cap w, (Instr.makeFunc fn first cap).run Tryz.prog w = .ok (.func fn first cap) w := fun _ _ _ _ => rfl
  clear hc hno
  go_enter Tryz.func40, Tryz.ntmps40
  go_wp2_with (first
    | (refine wpl_boxA (vs := k.cells) rfl (.tmp 1) rfl rfl s1 ?_; rintro T w2 s2'
       have s2 : St W w2 (OwnS 4 a n cp (tkC l) :: row T 0 k.cells :: row w.heap.size 0 [.pointer (some ⟨b, 0, none⟩)] :: row b 0 (millC rp c dp a n cp) :: R) := s2'.pick 2
       have c0 := row1c (St.pick 2 s2)
       obtain ⟨k0, k1, k2, k3⟩ := mill_at HC.out (St.pick 3 s2))
    | (go_at_call 87; refine tkIdxEcho_c (g := fun x => mkEq x.m k) (fun x => echoP1_c) s2 ?_ (fun i w' h _ _ => absurd h.2 (by rw [HN.out _ (List.getElem_mem h.1)]; decide)); rintro w3 - s3))
  go_end0
  exact HK.out _ (((s3.pick 1).drop).pick 1).drop

set_option maxRecDepth 100000 in
set_option maxHeartbeats 8000000 in
theorem echo_at {n cp i : Nat} {a : Option Addr} {l : List TkV} {x : TkV} {k : MkV} (hc : c.length = 20) (hn : n ≤ 4096) (hi : i < l.length) (hx : l[i] = x) (hg : mkEq x.m k = true) (hall : (l.take i).all (fun x => !mkEq x.m k) = true)
    (h0 : 0 ≤ x.n) (h1 : x.n < 2 ^ 62) (st : St W w (OwnS 4 a n cp (tkC l) :: row b 0 (millC rp c dp a n cp) :: R))
    (K : ∀ n' w', n' = ((l.set i ⟨x.m, x.n + 1⟩).filter fun t => decide (t.n < c.getD 15 0)).length → St W w' (OwnS 4 a n' cp (tkC ((l.set i ⟨x.m, x.n + 1⟩).filter fun t => decide (t.n < c.getD 15 0))) :: row b 0 (millC rp c dp a n' cp) :: R) → post (.returned (.tuple #[])) w') :
    Calls Tryz.prog 40 #[.pointer (some ⟨b, 0, none⟩), .agg k.cells.toArray] w post := by
  have HK := hid K; clear K
  have hl : l.length = n := tkC_ln (OwnS.rd st)
  have HU : Hid (∀ j, (∃ h : j < l.length, mkEq l[j].m k = true) → (l.take j).all (fun x => !mkEq x.m k) = true → j = i) := hid (fun j hj hb => first_one (g := fun x => mkEq x.m k) hj hb ⟨hi, by simp only [hx]; exact hg⟩ hall)
  have HY : Hid (∃ y ∈ l, mkEq y.m k = true) := hid ⟨l[i], List.getElem_mem hi, by rw [hx]; exact hg⟩
  have HS : Hid ((tkC l).set (i * 4 + 3) (.int .i64 (x.n + 1)) = tkC (l.set i ⟨x.m, x.n + 1⟩)) := hid (by rw [tkC_set hi, hx])
  have HG : Hid ((tkC l)[i * 4 + 3]? = some (.int .i64 x.n)) := hid (tkC_get hi (by rw [hx]; rfl))
  have HB : Hid (i * 4 + 3 < (tkC l).length) := hid (by rw [tkC_sz]; omega)
  have hi2 : (i : Int) < (n : Int) := by omega
  obtain ⟨gb, go, rfl⟩ := (OwnS.rd st).addr (by omega)
  have HC := hid hc
  have s1 := st.alloc #[.pointer (some ⟨b, 0, none⟩)] 31
  have Hm : ∀ fn first cap w, (Instr.makeFunc fn first cap).run Tryz.prog w = .ok (.func fn first cap) w := fun _ _ _ _ => rfl
  have hii : (i : Int).toNat = i := by omega
  have hi3 : ¬ (i : Int) < 0 := by omega
  obtain ⟨z, hz⟩ : ∃ z, x.n = z := ⟨_, rfl⟩
  obtain ⟨y, hy⟩ : ∃ y, (⟨x.m, x.n + 1⟩ : TkV) = y := ⟨_, rfl⟩
  rw [hy] at HK HS
  rw [hz] at HG HS h0 h1
  clear hc hg hall hl hx hi hz
  go_enter Tryz.func40, Tryz.ntmps40
  go_wp2_with (first
    | (refine wpl_boxA (vs := k.cells) rfl (.tmp 1) rfl rfl s1 ?_; rintro T w2 s2'
       have s2 : St W w2 (OwnS 4 (some ⟨gb, go, none⟩) n cp (tkC l) :: row T 0 k.cells :: row w.heap.size 0 [.pointer (some ⟨b, 0, none⟩)] :: row b 0 (millC rp c dp (some ⟨gb, go, none⟩) n cp) :: R) := s2'.pick 2
       have c0 := row1c (St.pick 2 s2)
       obtain ⟨k0, k1, k2, k3⟩ := mill_at HC.out (St.pick 3 s2))
    | (go_at_call 87; refine tkIdxEcho_c (g := fun x => mkEq x.m k) (fun x => echoP1_c) s2 (fun w' h _ => absurd h (by obtain ⟨y, hy, e⟩ := HY.out; intro h; have := List.all_eq_true.1 h y hy; simp [e] at this)) ?_; rintro j w3 hj hb s3
       obtain rfl : j = i := HU.out j hj hb
       clear hj hb HU
       have d0 := row1c (St.pick 2 s3)
       obtain ⟨j0, j1, j2, j3⟩ := mill_at HC.out (St.pick 3 s3)
       obtain ⟨f1, f2, s4⟩ := ownSetC (i := j * 4 + 3) (v := .int .i64 (z + 1)) s3 HB.out rfl
       rw [HG.out] at f2
       rw [HS.out] at s4
       rw [← Nat.add_assoc] at f1 f2 s4
       have e0 := row1c (St.pick 2 s4))
    | (go_at_call 51; refine keep_c (g := fun t => decide (t.n < c.getD 15 0)) HC.out hn (fun P x => keep1_E2 (echo2_c HC.out)) (s4.perm [0, 1, 1]) ?_; rintro n5 w5 hn5 s5))
  go_end0
  exact HK.out _ _ hn5 (((s5.pick 1).drop).pick 2).drop
end
end Go.Proofs.YtojfjbbggpfijaaGreatDoor

/- A mill: Heat, whatever rumors there are. Printed by mkRumN.py. -/
namespace Go.Proofs.YtojfjbbggpfijaaGreatDoor
open Go.RowKit Go.Qd RepV

set_option maxRecDepth 100000 in
set_option maxHeartbeats 1000000 in
/-- slices.Delete of one rumor. -/
theorem tkSl_c {W w : World} {R : List HP} {post : Ending → World → Prop} {ao : Option Addr} {n c : Nat} {cs : List Value} {i : Nat} (st : St W w (OwnS 4 ao n c cs :: R)) (hi : i < n) (hb : n * 40 ≤ 140737488355328)
    (K : ∀ ao' c' w', St W w' (OwnS 4 ao' (n - 1) c' (cs.take (i * 4) ++ cs.drop ((i + 1) * 4)) :: R) → post (.returned (.slice ao' (n - 1) c')) w') :
    Calls Tryz.prog 54 #[.slice ao n c, .int .i64 i, .int .i64 (i + 1)] w post := by
  have HK := hid K; clear K
  have hrd := OwnS.rd st
  have hle := hrd.le
  have hmax := hrd.max
  have hmax' := hmax
  unfold maxLen at hmax'
  have hne : ((i : Int) == (i : Int) + 1) = false := by simp; omega
  have e1 := run_slice_to Tryz.elem117 ao n c i (by omega)
  obtain ⟨ax, cx, ht, e2⟩ := run_slice_from Tryz.elem117 ao n c (i + 1) (n - 1 - i) (i := (i : Int) + 1) (by omega) (by omega)
  have hm1 : i + (n - 1 - i) ≤ maxLen := by unfold maxLen; omega
  go_enter Tryz.func54, Tryz.ntmps54
  go_wp2
  go_still_tail 6, (by kernel_rfl)
  have s1 : St W w.drew (OwnS 4 ao i c (cs.take (i * 4)) :: R) := (OwnS.short st (by omega)).drew
  have r1 : RdS w.drew 4 ax (n - 1 - i) cx (cs.drop ((i + 1) * 4)) := (RdS.tail hrd (by omega) ht).same (fun _ => rfl)
  clear e1 e2
  change wpList _ _ _ _ _ w.drew
  generalize w.drew = w2 at s1 r1 ⊢
  have hn : i + (n - 1 - i) = n - 1 := by omega
  have hb2 : (i + (n - 1 - i)) * 40 ≤ 140737488355328 := by omega
  have hr2 : i + (n - 1 - i) ≤ c := by omega
  have HN := hid hn; clear hn
  go_wp2_with (first
    | (at_builtin; refine wpl_append_room rfl _ _ rfl Tryz.elem117 rfl rfl s1 r1 hb2 hm1 hr2 ?_; rintro w3 s3; rw [HN.out] at s3; rw [HN.out])
    | (refine wpl_mid rfl _ _ _ rfl Tryz.elem117 (n - 1) n (n' := 1) rfl rfl rfl (by omega) (by omega) ?_; rintro ay cy ht2)
    | (refine wpl_clear rfl _ rfl Tryz.elem117 rfl s3 (by omega) ht2 ?_; rintro w4 s4))
  exact HK.out _ _ _ s4

section
variable {W w : World} {R : List HP} {post : Ending → World → Prop} {c : List Int} {b rp dp : Nat}
/-- slices.Delete of the first rumor. -/
theorem tkSl1_c {ao : Option Addr} {n cp : Nat} {l : List TkV} (hn : n ≤ 4096) (h1 : 1 ≤ n) (st : St W w (OwnS 4 ao n cp (tkC l) :: R))
    (K : ∀ ao' n' c' w', n' = (l.drop 1).length → St W w' (OwnS 4 ao' n' c' (tkC (l.drop 1)) :: R) → post (.returned (.slice ao' n' c')) w') :
    Calls Tryz.prog 54 #[.slice ao n cp, .int .i64 0, .int .i64 1] w post := by
  have hl : l.length = n := tkC_ln (OwnS.rd st)
  refine tkSl_c (i := 0) st (by omega) (by omega) (fun a1 c1 w1 s1 => ?_)
  have e : (tkC l).take (0 * 4) ++ (tkC l).drop ((0 + 1) * 4) = tkC (l.drop 1) := by rw [tkC_drop]; simp
  rw [e] at s1
  exact K a1 (n - 1) c1 w1 (by rw [List.length_drop, hl]) s1

section
attribute [local go_sem ↓] execOp_ldEn execOp_bTk execOp_bsTk
attribute [local go_sem] run_bTk run_bsTk
set_option maxRecDepth 100000 in
set_option maxHeartbeats 8000000 in
theorem heat_bad {e : EnV} {v : Value} (he : checkE e ≠ 0) (st : St W w R) (K : ∀ w', St W w' R → post (.returned (.tuple #[])) w') :
    Calls Tryz.prog 19 #[v, .agg e.cells.toArray] w post := by
  have HK := hid K; clear K
  obtain ⟨z, hz⟩ : ∃ z, checkE e = z := ⟨_, rfl⟩
  rw [hz] at he
  have HE := hid hz; clear hz
  have d0 : (z == 0) = false := by simpa using he
  go_enter Tryz.func19, Tryz.ntmps19
  go_wp2_with (first
    | (refine wpl_boxA (vs := e.cells) rfl (.tmp 1) rfl rfl st ?_; rintro E w1 s1; have l0 := run_loadG agg_en (vs := e.cells) rfl s1.rowAll)
    | (go_at_call 50; refine check_c s1 ?_; rintro w2 s2; rw [HE.out]))
  go_end0
  exact HK.out _ s2.drop

set_option maxRecDepth 100000 in
set_option maxHeartbeats 8000000 in
theorem heat_ok {n cp : Nat} {a : Option Addr} {l m : List TkV} {e : EnV} (hc : c.length = 20) (hn : n ≤ 4000) (he : checkE e = 0) (hm : l.filter (keyNe e.key) = m)
    (st : St W w (OwnS 4 a n cp (tkC l) :: row b 0 (millC rp c dp a n cp) :: R))
    (K : ∀ a' n' cp' w', n' = (if c.getD 14 0 < ((m.length + 1 : Nat) : Int) then (m ++ [(⟨e.mark, 0⟩ : TkV)]).drop 1 else m ++ [(⟨e.mark, 0⟩ : TkV)]).length → St W w' (OwnS 4 a' n' cp' (tkC (if c.getD 14 0 < ((m.length + 1 : Nat) : Int) then (m ++ [(⟨e.mark, 0⟩ : TkV)]).drop 1 else m ++ [(⟨e.mark, 0⟩ : TkV)])) :: row b 0 (millC rp c dp a' n' cp') :: R) → post (.returned (.tuple #[])) w') :
    Calls Tryz.prog 19 #[.pointer (some ⟨b, 0, none⟩), .agg e.cells.toArray] w post := by
  have HK := hid K; clear K
  have HC := hid hc; have HE := hid he; have HM := hid hm
  have hl : l.length = n := tkC_ln (OwnS.rd st)
  have hml : m.length ≤ n := by rw [← hm, ← hl]; exact List.length_filter_le _ _
  have hn2 : n ≤ 4096 := by omega
  obtain ⟨z, hz⟩ : ∃ z, c.getD 14 0 = z := ⟨_, rfl⟩
  have HZ := hid hz
  rw [hz] at HK
  have Hm : ∀ fn first cap w, (Instr.makeFunc fn first cap).run Tryz.prog w = .ok (.func fn first cap) w := fun _ _ _ _ => rfl
  have HB : Hid ((m.length + 1) * 40 ≤ 140737488355328 ∧ m.length + 1 ≤ maxLen ∧ m.length + 1 ≤ 4096) := hid (by unfold maxLen; omega)
  have HX : Hid (tkC m ++ TkV.cells ⟨e.mark, 0⟩ = tkC (m ++ [(⟨e.mark, 0⟩ : TkV)])) := hid (by rw [tkC_app, tkC_one])
  have HL : Hid ((m ++ [(⟨e.mark, 0⟩ : TkV)]).length = m.length + 1) := hid (by simp)
  clear hc he hm hz hl hml hn
  go_enter Tryz.func19, Tryz.ntmps19
  go_upto_region 3 with (first
    | (refine wpl_boxA (vs := e.cells) rfl (.tmp 1) rfl rfl st ?_; rintro E w1 s1; have l0 := run_loadG agg_en (vs := e.cells) rfl s1.rowAll)
    | (go_at_call 50; refine check_c s1 ?_; rintro w2 s2; rw [HE.out])
    | (go_at_call 51; refine keep_c (g := keyNe e.key) HC.out hn2 (fun P x => keep1_H1 (PredT.more heat1_c)) (St.pick 1 s2) ?_; rintro n3 w3 hn3 s3; rw [HM.out] at hn3 s3; subst hn3))
  try simp only [Act.put, List.setIfInBounds_toArray, List.set_cons_succ, List.set_cons_zero]
  go_cut [] (fun wx => ∃ a2 cp2, St W wx (OwnS 4 a2 (m.length + 1) cp2 (tkC (m ++ [(⟨e.mark, 0⟩ : TkV)])) :: row b 0 (millC rp c dp a2 (m.length + 1) cp2) :: R))
  case first =>
    have u := s3.drew
    have f0 := run_loadG agg_en (vs := e.cells) rfl (St.pick 1 u).rowAll
    obtain ⟨-, -, g2, g3⟩ := mill_at HC.out (St.pick 2 u)
    go_region_law (first
      | (go_simp; go_at_call 53; refine emark_c u ?_; rintro w5 s5; have f5 := run_loadG agg_en (vs := e.cells) rfl (St.pick 1 s5).rowAll; obtain ⟨-, -, p2, p3⟩ := mill_at HC.out (St.pick 2 s5); have s6 := s5.alloc (TkV.cells ⟨e.mark, 0⟩).toArray 139; have r6 := St.rowRd (sz := 4) (n := 1) s6 rfl (by decide) (tk_one _); obtain ⟨-, -, q2, q3⟩ := mill_at HC.out (St.pick 3 s6); have s7 := St.pick 1 s6)
      | (refine step_append_st rfl (.tmp 14) (.tmp 18) rfl Tryz.elem117 rfl rfl s7 r6 HB.out.1 HB.out.2.1 ?_; rintro a8 c8 w8 s8; obtain ⟨-, -, r2, r3⟩ := mill_at HC.out (St.pick 3 s8)))
    all_goals
      go_wp2_with fail
      go_meet
      case rel =>
        have s9 := (St.pick 3 s8).rowSet (i := 22) (by rw [mill_len HC.out]; decide) (.slice a8 (m.length + 1) c8)
        rw [mill_set HC.out] at s9
        rw [Nat.zero_add] at s9
        have t1 := St.pick 1 s9
        rw [HX.out] at t1
        exact ⟨a8, c8, ((t1.pick 2).drop.pick 2).drop⟩
  case rest =>
  obtain ⟨a2, cp2, s9⟩ := hcut
  have hb3 := HB.out.2.2
  clear HB HX
  have HQ : Hid (m.length + 1 = (m ++ [(⟨e.mark, 0⟩ : TkV)]).length) := hid HL.out.symm
  obtain ⟨p, hp⟩ : ∃ p, m.length + 1 = p := ⟨_, rfl⟩
  rw [hp] at s9 HK HQ hb3
  have hp1 : 1 ≤ p := by omega
  clear hp HL
  obtain ⟨y, hy⟩ : ∃ y, m ++ [(⟨e.mark, 0⟩ : TkV)] = y := ⟨_, rfl⟩
  rw [hy] at s9 HK HQ
  clear hy
  obtain ⟨-, -, r2, r3⟩ := mill_at HC.out (St.pick 1 s9)
  have r4 := mill_cfg HC.out (St.pick 1 s9) (i := 14) (by decide)
  rw [HZ.out] at r4
  simp only [Nat.reduceAdd] at r4
  by_cases hgt : z < (p : Int)
  · have dz : decide (z < (p : Int)) = true := decide_eq_true hgt
    have HI : Hid ((if z < (p : Int) then y.drop 1 else y) = y.drop 1) := hid (if_pos hgt)
    rw [HI.out] at HK
    clear HI
    go_wp2_with fail
    go_quiet (fail)
    have s10 := s9.drewN nq
    obtain ⟨-, -, x2, x3⟩ := mill_at HC.out (St.pick 1 s10)
    go_wp2_with (go_at_call 54; refine tkSl1_c hb3 hp1 s10 ?_; rintro a11 n11 c11 w11 h11 s11; have H11 := hid h11; clear h11; obtain ⟨-, -, x2, x3⟩ := mill_at HC.out (St.pick 1 s11))
    have s12 := (St.pick 1 s11).rowSet (i := 22) (by rw [mill_len HC.out]; decide) (.slice a11 n11 c11)
    rw [mill_set HC.out] at s12
    rw [Nat.zero_add] at s12
    go_end0
    exact HK.out _ _ _ _ H11.out (St.pick 1 s12)
  · have dz : decide (z < (p : Int)) = false := decide_eq_false hgt
    have HI : Hid ((if z < (p : Int) then y.drop 1 else y) = y) := hid (if_neg hgt)
    rw [HI.out] at HK
    clear HI
    go_wp2_with fail
    go_quiet (fail)
    go_wp2_with fail
    go_end0
    exact HK.out _ _ _ _ HQ.out (s9.drewN nq)
end
end
end Go.Proofs.YtojfjbbggpfijaaGreatDoor

/- A mill: Heat and echo in the plain law's words; Hot and Count. Printed by mkRumO.py. -/
namespace Go.Proofs.YtojfjbbggpfijaaGreatDoor
open Go.RowKit Go.Qd RepV
section
variable {W w : World} {R : List HP} {post : Ending → World → Prop} {c : List Int} {b rp dp : Nat}
/-- Heat of any entry. -/
theorem heat_c {n cp : Nat} {a : Option Addr} {l : List TkV} {e : EnV} (hc : c.length = 20) (hn : n ≤ 4000)
    (st : St W w (OwnS 4 a n cp (tkC l) :: row b 0 (millC rp c dp a n cp) :: R))
    (K : ∀ a' n' cp' w', n' = (heatL (c.getD 14 0) l e).length → St W w' (OwnS 4 a' n' cp' (tkC (heatL (c.getD 14 0) l e)) :: row b 0 (millC rp c dp a' n' cp') :: R) → post (.returned (.tuple #[])) w') :
    Calls Tryz.prog 19 #[.pointer (some ⟨b, 0, none⟩), .agg e.cells.toArray] w post := by
  by_cases he : checkE e = 0
  · refine heat_ok hc hn he rfl st (fun a1 n1 c1 w1 h1 s1 => ?_)
    have hq : heatL (c.getD 14 0) l e = (if c.getD 14 0 < (((l.filter (keyNe e.key)).length + 1 : Nat) : Int) then (l.filter (keyNe e.key) ++ [(⟨e.mark, 0⟩ : TkV)]).drop 1 else l.filter (keyNe e.key) ++ [(⟨e.mark, 0⟩ : TkV)]) := by
      unfold heatL; rw [if_neg (by simpa using he)]
    exact K a1 n1 c1 w1 (by rw [hq]; exact h1) (by rw [hq]; exact s1)
  · have hq : heatL (c.getD 14 0) l e = l := by unfold heatL; rw [if_pos he]
    have hl : l.length = n := tkC_ln (OwnS.rd st)
    exact heat_bad he st (fun w1 s1 => K a n cp w1 (by rw [hq, hl]) (by rw [hq]; exact s1))

/-- echo of any mark. -/
theorem echo_c {n cp : Nat} {a : Option Addr} {l : List TkV} {k : MkV} (hc : c.length = 20) (hn : n ≤ 4096) (hb : ∀ x ∈ l, 0 ≤ x.n ∧ x.n < 2 ^ 62)
    (st : St W w (OwnS 4 a n cp (tkC l) :: row b 0 (millC rp c dp a n cp) :: R))
    (K : ∀ n' w', n' = (bumpL (c.getD 15 0) l k).length → St W w' (OwnS 4 a n' cp (tkC (bumpL (c.getD 15 0) l k)) :: row b 0 (millC rp c dp a n' cp) :: R) → post (.returned (.tuple #[])) w') :
    Calls Tryz.prog 40 #[.pointer (some ⟨b, 0, none⟩), .agg k.cells.toArray] w post := by
  have hl : l.length = n := tkC_ln (OwnS.rd st)
  cases hf : l.findIdx? (fun t => mkEq t.m k) with
  | none =>
    have hq : bumpL (c.getD 15 0) l k = l := by unfold bumpL; rw [hf]
    have hno : ∀ x ∈ l, mkEq x.m k = false := fun x hx => by
      have := List.findIdx?_eq_none_iff.1 hf x hx
      simpa using this
    exact echo_no hc hno st (fun w1 s1 => K n w1 (by rw [hq, hl]) (by rw [hq]; exact s1))
  | some i =>
    obtain ⟨hi, hg, hj⟩ := List.findIdx?_eq_some_iff_getElem.1 hf
    have hq : bumpL (c.getD 15 0) l k = (l.set i ⟨l[i].m, l[i].n + 1⟩).filter fun t => decide (t.n < c.getD 15 0) := by
      unfold bumpL; rw [hf]; simp only [List.getD_eq_getElem?_getD, List.getElem?_eq_getElem hi, Option.getD_some]
    have hbi := hb _ (List.getElem_mem hi)
    refine echo_at hc hn hi rfl hg ?_ hbi.1 hbi.2 st (fun n1 w1 h1 s1 => K n1 w1 (by rw [hq]; exact h1) (by rw [hq]; exact s1))
    refine List.all_eq_true.2 (fun x hx => ?_)
    obtain ⟨j, hjl, rfl⟩ := List.mem_iff_getElem.1 hx
    rw [List.length_take] at hjl
    have := hj j (by omega)
    rw [List.getElem_take]
    simpa using this
end
end Go.Proofs.YtojfjbbggpfijaaGreatDoor

/- A mill: Hot, whatever rumors there are. Printed by mkRumQ.py. -/
namespace Go.Proofs.YtojfjbbggpfijaaGreatDoor
open Go.RowKit Go.Qd RepV
section
variable {W w : World} {R : List HP} {post : Ending → World → Prop} {c : List Int} {b rp dp : Nat}
section
attribute [local go_sem ↓] execOp_ldAny execOp_bsMk
attribute [local go_sem] run_bsMk
set_option maxRecDepth 100000 in
set_option maxHeartbeats 4000000 in
/-- The rumors' marks, in a slice of their own. -/
theorem hot_c {a : Option Addr} {n cp : Nat} {l : List TkV} (hc : c.length = 20) (hn : n ≤ 4096) (st : St W w (OwnS 4 a n cp (tkC l) :: row b 0 (millC rp c dp a n cp) :: R))
    (K : ∀ ao c' w', St W w' (OwnS 3 ao n c' (mkC (l.map (·.m))) :: OwnS 4 a n cp (tkC l) :: row b 0 (millC rp c dp a n cp) :: R) → post (.returned (.slice ao n c')) w') :
    Calls Tryz.prog 22 #[.pointer (some ⟨b, 0, none⟩)] w post := by
  have HK := hid K; clear K
  have hl : l.length = n := tkC_ln (OwnS.rd st)
  have HL := hid hl
  have l2 := run_ldP (t := 117) (by kernel_rfl) (mill_at hc (St.pick 1 st)).2.2.1
  clear hc hl
  go_enter Tryz.func22, Tryz.ntmps22
  go_wp2_with fail
  go_loopw [3, 11] (fun oo ii wr => ∃ i : Nat, ∃ ao cc, i ≤ n ∧ oo = .slice ao i cc ∧ ii = .int .i64 i ∧ St W wr (OwnS 3 ao i cc (mkC ((l.take i).map (·.m))) :: OwnS 4 a n cp (tkC l) :: row b 0 (millC rp c dp a n cp) :: R)) (fun _ ii _ => n - (intOf ii).toNat)
  case atStart => exact ⟨0, none, 0, Nat.zero_le _, rfl, rfl, OwnS.none0 st⟩
  case round =>
    obtain ⟨i, ao, cc, hi, rfl, rfl, sr⟩ := hrel
    by_cases hlt : i < n
    · have hi2 : (i : Int) < (n : Int) := by omega
      have hiL : i < l.length := by rw [HL.out]; exact hlt
      have rd := OwnS.rd (St.pick 1 sr)
      obtain ⟨gb, go, rfl⟩ := rd.addr (by omega)
      have l0 := tkC_ld rd hiL
      have HT : Hid (mkC ((l.take i).map (·.m)) ++ MkV.cells l[i].m = mkC ((l.take (i + 1)).map (·.m))) := hid (by rw [List.take_succ_eq_append_getElem hiL, List.map_append]; simp [mkC])
      obtain ⟨x, hx⟩ : ∃ x, l[i] = x := ⟨_, rfl⟩
      rw [hx] at l0 HT
      clear hx rd hiL
      have hb1 : (i + 1) * 32 ≤ 140737488355328 := by omega
      have hm1 : i + 1 ≤ maxLen := by unfold maxLen; omega
      go_wp2_with (first
        | (refine wpl_allocA (vs := [.int .i64 0, .int .i64 0, .string ByteArray.empty, .int .i64 0]) rfl rfl (fun _ => by kernel_rfl) sr ?_; rintro T w2 s2)
        | (refine wpl_storeA (vs := x.cells) rfl (.tmp 5) (.tmp 14) (by rfl) agg_tk (by rfl) (by rfl) rfl (tk_one _) s2 rfl ?_; rintro w3 s3; have l1 := run_loadG agg54 (vs := x.m.cells) rfl (St.rowPart s3 0 (xs := x.m.cells) (ys := [.int .i64 x.n]) rfl); have s4 := s3.alloc x.m.cells.toArray 59; have r4 := St.rowRd (sz := 3) (n := 1) s4 rfl (by decide) (mk_one x.m); have s5 := St.pick 2 s4)
        | (at_builtin; refine wpl_append rfl (.tmp 15) (.tmp 18) rfl Tryz.elem60 rfl rfl s5 r4 hb1 hm1 ?_; rintro a8 c8 w8 s8; rw [HT.out] at s8))
      go_roundw
      case rel => exact ⟨i + 1, a8, c8, by omega, by go_num, by go_num, (((s8.pick 1).drop).pick 1).drop⟩
      case measure => simp [intOf]; omega
    · have hie : i = n := by omega
      subst hie
      have HM : Hid (l.take i = l) := hid (List.take_of_length_le (by rw [HL.out]; exact Nat.le_refl _))
      rw [HM.out] at sr
      go_wp2_with fail
      exact HK.out _ _ _ sr
end
end
end Go.Proofs.YtojfjbbggpfijaaGreatDoor
