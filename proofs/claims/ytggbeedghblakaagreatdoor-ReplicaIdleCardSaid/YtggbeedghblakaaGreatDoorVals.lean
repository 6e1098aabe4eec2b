/- A region that draws its order, walked once for each operation: what each yields is said by a relation on what is done and what was yielded, whatever ran ahead of it. -/
import Derived.Test.YtggbeedghblakaaGreatDoorLib
import Derived.Test.YtggbeedghblakaaGreatDoorAggS
namespace Go.Qd
open Go.RowKit

/-- The frame behind the operations that are done, each with what it yielded. -/
def putD : List Oper → Nat → (Nat → Bool) → (Nat → Value) → Act → Act
  | [], _, _, _, a => a
  | o :: l, k, d, v, a => putD l (k + 1) d v (if d k = true then a.put o.dst (v k) else a)
/-- .. behind all. -/
def putAll : List Oper → Nat → (Nat → Value) → Act → Act
  | [], _, _, a => a
  | o :: l, k, v, a => putAll l (k + 1) v (a.put o.dst (v k))
def updB (d : Nat → Bool) (i : Nat) : Nat → Bool := fun j => if j = i then true else d j
def updV (v : Nat → Value) (i : Nat) (x : Value) : Nat → Value := fun j => if j = i then x else v j

theorem put_eval (a : Act) (dst : Option Tmp) (v : Value) (t : Nat) : (a.put dst v).eval (.tmp t) = if dst = some t ∧ t < a.tmps.size then v else a.eval (.tmp t) := by
  cases dst with
  | none => simp [Act.put]
  | some d =>
    simp only [Act.put, Act.eval, Array.getD_eq_getD_getElem?, Array.getElem?_setIfInBounds, Option.some.injEq]
    by_cases h : d = t
    · subst h
      by_cases h2 : d < a.tmps.size <;> simp [h2]
    · simp [h]
theorem put_size (a : Act) (dst : Option Tmp) (v : Value) : (a.put dst v).tmps.size = a.tmps.size := by
  cases dst <;> simp [Act.put]
theorem put_comm (a : Act) {d e : Option Tmp} (h : ∀ t, d = some t → e ≠ some t) (x y : Value) : (a.put d x).put e y = (a.put e y).put d x := by
  cases d with
  | none => rfl
  | some d =>
    cases e with
    | none => rfl
    | some e =>
      have : d ≠ e := fun hh => h d rfl (by rw [hh])
      simp only [Act.put]
      rw [Array.setIfInBounds_comm _ _ this]

variable {l : List Oper} {k : Nat} {d : Nat → Bool} {v : Nat → Value} {a : Act}
theorem putD_comm {dst : Option Tmp} (h : ∀ t, dst = some t → t ∉ l.filterMap (·.dst)) (x : Value) : (putD l k d v a).put dst x = putD l k d v (a.put dst x) := by
  induction l generalizing k a with
  | nil => rfl
  | cons o l ih =>
    have h1 : ∀ t, dst = some t → t ∉ l.filterMap (·.dst) := fun t ht hm => h t ht (by
      rw [List.filterMap_cons]
      split
      · exact hm
      · exact List.mem_cons_of_mem _ hm)
    have h2 : ∀ t, dst = some t → o.dst ≠ some t := fun t ht ho => h t ht (by rw [List.filterMap_cons, ho]; simp)
    unfold putD
    rw [ih h1]
    congr 1
    split
    · exact put_comm _ (fun t ht hd => h2 t hd ht) _ _
    · rfl
theorem putD_congr {d' : Nat → Bool} {v' : Nat → Value} (h : ∀ j, k ≤ j → d' j = d j ∧ v' j = v j) : putD l k d' v' a = putD l k d v a := by
  induction l generalizing k a with
  | nil => rfl
  | cons o l ih =>
    unfold putD
    rw [ih (fun j hj => h j (by omega)), (h k (Nat.le_refl _)).1, (h k (Nat.le_refl _)).2]
theorem putD_size : (putD l k d v a).tmps.size = a.tmps.size := by
  induction l generalizing k a with
  | nil => rfl
  | cons o l ih => unfold putD; rw [ih]; split <;> simp [put_size]
theorem putD_out {t : Nat} (h : t ∉ l.filterMap (·.dst)) : (putD l k d v a).eval (.tmp t) = a.eval (.tmp t) := by
  induction l generalizing k a with
  | nil => rfl
  | cons o l ih =>
    have h1 : t ∉ l.filterMap (·.dst) := fun hm => h (by
      rw [List.filterMap_cons]
      split
      · exact hm
      · exact List.mem_cons_of_mem _ hm)
    have h2 : o.dst ≠ some t := fun ho => h (by rw [List.filterMap_cons, ho]; simp)
    unfold putD
    rw [ih h1]
    split
    · rw [put_eval, if_neg (fun hh => h2 hh.1)]
    · rfl
theorem putD_in {m t : Nat} {o : Oper} (hm : l[m]? = some o) (ho : o.dst = some t) (hn : (l.filterMap (·.dst)).Nodup) (hd : d (k + m) = true) (ht : t < a.tmps.size) : (putD l k d v a).eval (.tmp t) = v (k + m) := by
  induction l generalizing k a m with
  | nil => simp at hm
  | cons q l ih =>
    have hn' : (l.filterMap (·.dst)).Nodup := by
      rw [List.filterMap_cons] at hn
      split at hn
      · exact hn
      · exact (List.nodup_cons.1 hn).2
    cases m with
    | zero =>
      simp only [List.getElem?_cons_zero, Option.some.injEq] at hm
      subst hm
      rw [Nat.add_zero] at hd ⊢
      unfold putD
      rw [if_pos hd]
      rw [List.filterMap_cons, ho] at hn
      rw [putD_out (List.nodup_cons.1 hn).1, put_eval, if_pos ⟨ho, ht⟩]
    | succ m =>
      unfold putD
      have := ih (k := k + 1) (m := m) (a := if d k = true then a.put q.dst (v k) else a) (by simpa using hm) hn' (by rw [show k + 1 + m = k + (m + 1) by omega]; exact hd) (by split <;> simp [put_size, ht])
      rw [this]
      congr 1
      omega
theorem putD_upd {m : Nat} {o : Oper} {x : Value} (hm : l[m]? = some o) (hn : (l.filterMap (·.dst)).Nodup) (hd : d (k + m) = false) : (putD l k d v a).put o.dst x = putD l k (updB d (k + m)) (updV v (k + m) x) a := by
  induction l generalizing k a m with
  | nil => simp at hm
  | cons q l ih =>
    have hn' : (l.filterMap (·.dst)).Nodup := by
      rw [List.filterMap_cons] at hn
      split at hn
      · exact hn
      · exact (List.nodup_cons.1 hn).2
    cases m with
    | zero =>
      simp only [List.getElem?_cons_zero, Option.some.injEq] at hm
      subst hm
      rw [Nat.add_zero] at hd ⊢
      unfold putD
      rw [hd, if_neg (by decide), if_pos (by simp [updB])]
      rw [putD_comm (fun t ht hmem => by
        rw [List.filterMap_cons, ht] at hn
        exact (List.nodup_cons.1 hn).1 hmem)]
      rw [show updV v k x k = x by simp [updV]]
      exact (putD_congr (fun j hj => ⟨by simp [updB]; omega, by simp [updV]; omega⟩)).symm
    | succ m =>
      unfold putD
      have := ih (k := k + 1) (m := m) (a := if d k = true then a.put q.dst (v k) else a) (by simpa using hm) hn' (by rw [show k + 1 + m = k + (m + 1) by omega]; exact hd)
      rw [this, show k + 1 + m = k + (m + 1) by omega]
      congr 1
      have hk : k ≠ k + (m + 1) := by omega
      simp [updB, updV]
theorem putD_all (h : ∀ i, i < l.length → d (k + i) = true) : putD l k d v a = putAll l k v a := by
  induction l generalizing k a with
  | nil => rfl
  | cons o l ih =>
    unfold putD putAll
    have h0 := h 0 (by simp)
    rw [Nat.add_zero] at h0
    rw [if_pos h0]
    exact ih fun i hi => by have := h (i + 1) (by simp; omega); rwa [show k + 1 + i = k + (i + 1) by omega]

/-- Each slot is written once; no guards; what binds points back. -/
def valsB (l : List Oper) : Bool := decide ((l.filterMap (·.dst)).Nodup) && (l.all fun o => o.guard.isNone) && (l.zipIdx.all fun (o, i) => o.after.all fun e => !Region.binds .any e || decide (e.on < i))

theorem wp_region_vals {P : Program} {id : Nat} {Q : Exit → Act → World → Prop} {base : Act} {w : World} {l : List Oper} (I : (Nat → Bool) → (Nat → Value) → World → Prop) (hm : P.follows .mixedOrders = true) (hB : valsB l = true) (v0 : Nat → Value)
    (h0 : I (fun _ => false) v0 w.drew)
    (hop : ∀ i o, l[i]? = some o → ∀ d v w', I d v w' → d i = false → (∀ e ∈ o.after, Region.binds .any e = true → d e.on = true) →
      o.wp P (putD l 0 d v base) w' (fun a' w'' => ∃ x, a' = (putD l 0 d v base).put o.dst x ∧ I (updB d i) (updV v i x) w'') Q)
    (hend : ∀ v w', I (fun i => decide (i < l.length)) v w' → Q .normal (putAll l 0 v base) w') : (Code.region id l.toArray true).wp P Q base w := by
  unfold valsB at hB
  simp only [Bool.and_eq_true, decide_eq_true_eq, List.all_eq_true] at hB
  obtain ⟨⟨hn, hg⟩, he⟩ := hB
  have back : ∀ i o, l[i]? = some o → ∀ e ∈ o.after, Region.binds .any e = true → e.on < i := by
    intro i o hi e hee hb
    have hmem : (o, i) ∈ l.zipIdx := by
      rw [List.mem_zipIdx_iff_getElem?]; exact hi
    have := he _ hmem
    simp only [Array.all_eq_true_iff_forall_mem, Bool.or_eq_true, Bool.not_eq_true', decide_eq_true_eq] at this
    rcases this e hee with h | h
    · rw [hb] at h; cases h
    · exact h
  have key : ∀ (f : Nat) (listed : Array Bool) (v : Nat → Value) (w' : World), listed.size = l.length → (List.range l.length).countP (fun j => !listed.getD j true) ≤ f → I (fun j => listed.getD j false) v w' →
      wpAny P .any l.toArray Q f listed (putD l 0 (fun j => listed.getD j false) v base) w' := by
    intro f
    have fin : ∀ (listed : Array Bool) (v : Nat → Value) (w' : World), listed.size = l.length → (∀ j, j < l.length → listed.getD j true = true) → I (fun j => listed.getD j false) v w' → Q .normal (putD l 0 (fun j => listed.getD j false) v base) w' := by
      intro listed v w' hs hall hi
      have hd : (fun j => listed.getD j false) = (fun i => decide (i < l.length)) := by
        funext j
        by_cases hj : j < l.length
        · have h1 := hall j hj
          rw [Array.getD_eq_getD_getElem?, Array.getElem?_eq_getElem (by omega)] at h1 ⊢
          simpa [hj] using h1
        · rw [Array.getD_eq_getD_getElem?, Array.getElem?_eq_none (by omega)]
          simp [hj]
      rw [hd] at hi ⊢
      rw [putD_all (fun i hi => by simpa using hi)]
      exact hend v w' hi
    have none_ready : ∀ (listed : Array Bool), listed.size = l.length → (∀ j, j < l.length → listed.getD j true = true) → Region.ready .any l.toArray listed = [] := by
      intro listed hs hall
      rw [List.eq_nil_iff_forall_not_mem]
      intro j hj
      obtain ⟨h1, o, ho, _⟩ := mem_ready.1 hj
      have : j < l.length := by
        rcases Nat.lt_or_ge j l.length with h | h
        · exact h
        · rw [Array.getElem?_eq_none (by simpa using h)] at ho; cases ho
      rw [hall j this] at h1; cases h1
    induction f with
    | zero =>
      intro listed v w' hs hc hi
      have hall : ∀ j, j < l.length → listed.getD j true = true := by
        intro j hj
        have := List.countP_eq_zero.1 (Nat.le_zero.1 hc) j (List.mem_range.2 hj)
        simpa using this
      exact ⟨none_ready listed hs hall, fin listed v w' hs hall hi⟩
    | succ f ih =>
      intro listed v w' hs hc hi
      refine ⟨fun hr => ?_, fun i hir => ?_⟩
      · refine fin listed v w' hs ?_ hi
        intro j
        induction j using Nat.strongRecOn with
        | ind j ihj =>
          intro hj
          cases hl : listed.getD j true with
          | true => rfl
          | false =>
            exfalso
            have hmem : j ∈ Region.ready .any l.toArray listed := by
              refine mem_ready.2 ⟨hl, l[j], by simp [hj], fun e hee hb => ?_⟩
              have hlt := back j l[j] (by simp [hj]) e hee hb
              have h1 := ihj e.on hlt (by omega)
              have hls : e.on < listed.size := by omega
              rw [Array.getD_eq_getD_getElem?, Array.getElem?_eq_getElem hls] at h1 ⊢
              simpa using h1
            rw [hr] at hmem
            cases hmem
      · obtain ⟨h1, o, ho, hed⟩ := mem_ready.1 hir
        have hil : i < l.length := by
          rcases Nat.lt_or_ge i l.length with h | h
          · exact h
          · rw [Array.getElem?_eq_none (by simpa using h)] at ho; cases ho
        have ho' : l[i]? = some o := by simpa using ho
        have hgn : o.guard = none := by
          have := hg o (List.mem_of_getElem? ho')
          simpa using this
        have h1' : listed.getD i false = false := by
          rw [Array.getD_eq_getD_getElem?, Array.getElem?_eq_getElem (by omega)] at h1 ⊢
          simpa using h1
        unfold wpOp
        simp only [ho]
        rw [if_pos (by simp [Region.wanted, hgn])]
        refine .inl (Oper.wp_mono ?_ (hop i o ho' _ v w' hi h1' hed))
        rintro a' w'' ⟨x, rfl, hI⟩
        rw [putD_upd (k := 0) (m := i) ho' hn (by simpa using h1')]
        have hupd : (fun j => (listed.setIfInBounds i true).getD j false) = updB (fun j => listed.getD j false) i := by
          funext j
          unfold updB
          simp only [Array.getD_eq_getD_getElem?, Array.getElem?_setIfInBounds]
          by_cases hji : j = i
          · have hls : i < listed.size := by omega
            subst hji; rw [if_pos rfl, if_pos rfl, if_pos hls]; rfl
          · rw [if_neg (fun h => hji h.symm), if_neg hji]
        have := ih (listed.setIfInBounds i true) (updV v i x) w'' (by simpa using hs) ?_ (by rw [hupd]; exact hI)
        · rw [hupd] at this
          rw [Nat.zero_add]
          exact this
        · have hlt : (List.range l.length).countP (fun j => !(listed.setIfInBounds i true).getD j true) < (List.range l.length).countP (fun j => !listed.getD j true) := by
            have hsplit : ∀ (r : List Nat), i ∈ r → r.countP (fun j => !(listed.setIfInBounds i true).getD j true) < r.countP (fun j => !listed.getD j true) := by
              intro r
              have mono : ∀ (r : List Nat), r.countP (fun j => !(listed.setIfInBounds i true).getD j true) ≤ r.countP (fun j => !listed.getD j true) := by
                intro r
                refine List.countP_mono_left fun j _ hj => ?_
                simp only [Array.getD_eq_getD_getElem?, Array.getElem?_setIfInBounds] at hj ⊢
                by_cases hji : i = j
                · subst hji
                  rw [if_pos rfl] at hj
                  split at hj <;> simp at hj
                · rw [if_neg hji] at hj; exact hj
              induction r with
              | nil => intro h; cases h
              | cons y r ihr =>
                intro h
                rw [List.countP_cons, List.countP_cons]
                have e1 : (!(listed.setIfInBounds i true).getD i true) = false := by
                  simp only [Array.getD_eq_getD_getElem?, Array.getElem?_setIfInBounds, if_true]
                  split <;> simp
                have e2 : (!listed.getD i true) = true := by rw [h1]; rfl
                rcases List.mem_cons.1 h with rfl | h
                · rw [e1, e2, if_pos rfl, if_neg (by decide)]; have := mono r; omega
                · have := ihr h
                  have hy : (if (!(listed.setIfInBounds i true).getD y true) = true then 1 else 0) ≤ (if (!listed.getD y true) = true then 1 else 0) := by
                    have := mono [y]
                    simp only [List.countP_cons, List.countP_nil, Nat.zero_add] at this
                    exact this
                  omega
            exact hsplit _ (List.mem_range.2 hil)
          omega
  refine wp_region_any hm ?_
  have hz : (fun j => (Array.replicate l.toArray.size false).getD j false) = (fun _ => false) := by
    funext j
    simp only [Array.getD_eq_getD_getElem?, Array.getElem?_replicate]
    split <;> rfl
  have := key l.toArray.size (Array.replicate l.toArray.size false) v0 w.drew (by simp) (by
    refine Nat.le_trans List.countP_le_length ?_
    simp) (by rw [hz]; exact h0)
  rw [hz] at this
  have e0 : putD l 0 (fun _ => false) v0 base = base := by
    have : ∀ (l : List Oper) (k : Nat), putD l k (fun _ => false) v0 base = base := by
      intro l
      induction l with
      | nil => intro k; rfl
      | cons o l ih => intro k; unfold putD; rw [if_neg (by simp)]; exact ih _
    exact this l 0
  rw [e0] at this
  exact this

/-! One operation. -/
section
variable {P : Program} {Q : Exit → Act → World → Prop} {K : Act → World → Prop} {A : Act} {W w : World} {R : List HP} {o : Oper} {t : TypeId} {n b off : Nat} {vs us : List Value}

theorem vals_move {y : Value} (x : Operand) (hop : o.op = Op.move x) (hx : A.eval x = y) (hK : K (A.put o.dst y) w) : o.wp P A w K Q := by
  unfold Oper.wp
  simp [execOp, hop, hx]
  exact hK
theorem vals_idx {e : TypeId} {sz bytes len c i : Nat} (x y : Operand) (hop : o.op = Op.indexAddr t x y) (E : ElemT P t e sz bytes) (hx : A.eval x = .slice (some ⟨b, off, none⟩) len c) (hy : A.eval y = .int .i64 i) (hi : i < len)
    (hK : K (A.put o.dst (.pointer (some ⟨b, off + i * sz, none⟩))) w) : o.wp P A w K Q := by
  obtain ⟨inf, z, h1, h2, h3, h4, h5, h6⟩ := E.info
  have hso : (sizeOf e).run P w = .ok sz w := by rw [run_sizeOf w h1]; simp [Program.cellsOf, h1, h3]
  have hrun : (Instr.indexAt t (.slice (some ⟨b, off, none⟩) len c) (.int .i64 i)).run P w = .ok (.pointer (some ⟨b, off + i * sz, none⟩)) w := by
    simp [Instr.indexAt, asIntOf, run_underlying E.und, hso, add_plain']
    omega
  unfold Oper.wp
  simp [execOp, hop, hx, hy, hrun, Result.andThen]
  exact hK
theorem vals_load {y : Value} (x : Operand) (hop : o.op = Op.load t x) (hx : A.eval x = .pointer (some ⟨b, off, none⟩)) (hl : (loadG t (.pointer (some ⟨b, off, none⟩))).run P w = .ok y w) (hK : K (A.put o.dst y) w) : o.wp P A w K Q := by
  unfold loadG at hl
  unfold Oper.wp
  simp [execOp, hop, hx, hl, Result.andThen]
  exact hK
theorem vals_alloc (hop : o.op = Op.alloc t) (hz : ∀ w, (zeroValue t).run P w = .ok (.agg vs.toArray) w) (s : St W w R)
    (hK : ∀ b' w', St W w' (row b' 0 vs :: R) → K (A.put o.dst (.pointer (some ⟨b', 0, none⟩))) w') : o.wp P A w K Q := by
  unfold Oper.wp
  have := s.alloc vs.toArray t
  simp [execOp, hop, Instr.alloc, newVar, newRow, Value.cells, Result.andThen, hz]
  exact hK _ _ (by simpa using this)
theorem vals_store (x y : Operand) (hop : o.op = Op.store t x y) (T : AggT P t n) (hx : A.eval x = .pointer (some ⟨b, 0, none⟩)) (hy : A.eval y = .agg vs.toArray) (h1 : oneG vs n) (s : St W w (row b 0 us :: R)) (hp : us.length = n)
    (hK : ∀ w', St W w' (row b 0 vs :: R) → K (A.put o.dst undef) w') : o.wp P A w K Q := by
  have hst := run_storeG T (s.roomG hp) h1
  unfold storeG at hst
  unfold Oper.wp
  simp [execOp, hop, hx, hy, hst, Result.andThen]
  exact hK _ (s.setAll (by rw [h1.1, hp]))
theorem vals_call {f : Nat} {x : Operand} {y : Value} {ts : Array TypeId} (hop : o.op = Op.call { callee := Callee.value (Operand.func f), args := #[x], argTypes := ts }) (hf : ∀ args w, (callFunc f args).run P w = .ok (.enter f args) w) (hx : A.eval x = y)
    (hc : Calls P f #[y] w fun e w' => ∃ z, e = .returned z ∧ K (A.put o.dst z) w') : o.wp P A w K Q := by
  unfold Oper.wp
  have he : A.eval (.func f) = .func (.func f) #[] #[] := rfl
  simp [execOp, hop, resolve, invoke, he, hx, hf, Deferred.ofValue]
  refine hc.mono ?_
  rintro e w' ⟨z, rfl, h⟩
  exact h

/-- A row that is there or not yet. -/
def ptrBlk : Value → Nat
  | .pointer (some a) => a.block
  | _ => 0
def optR (d : Bool) (x : Value) (cs : List Value) : HP := if d = true then row (ptrBlk x) 0 cs else emp
end
end Go.Qd
