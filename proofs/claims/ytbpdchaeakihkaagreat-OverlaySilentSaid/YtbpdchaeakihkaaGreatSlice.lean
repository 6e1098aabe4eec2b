/-
  Slices in the logic of ownership: 'RdS': a slice reads these cells in a world; 'OwnS': a slice is owned, with its spare cells. The laws for append, for cutting, for writing an element.
-/
import Derived.Test.YtbpdchaeakihkaaGreatHeap
namespace Go.Qd
open Go.RowKit

structure RdS (w : World) (sz : Nat) (ao : Option Addr) (n c : Nat) (cs : List Value) : Prop where
  len : cs.length = n * sz
  le : n ≤ c
  max : c ≤ maxLen
  nil : ao = none → c = 0
  addr : 0 < n → ∃ b o, ao = some ⟨b, o, none⟩
  cell : ∀ a, ao = some a → ∀ i u, cs[i]? = some u → w.cell? (a.add i) = some u
  one : ∀ u ∈ cs, u.oneCell' = true

theorem add_plain' (b o i : Nat) : (⟨b, o, none⟩ : Addr).add i = ⟨b, o + i, none⟩ := by
  unfold Addr.add
  split
  · rename_i h; subst h; rfl
  · rfl

theorem RdS.at {w : World} {sz n c b o : Nat} {cs : List Value} (h : RdS w sz (some ⟨b, o, none⟩) n c cs) {i : Nat} {u : Value} (hi : cs[i]? = some u) :
    w.cell? ⟨b, o + i, none⟩ = some u := by
  have := h.cell _ rfl i u hi
  rwa [add_plain'] at this

theorem RdS.at2 {w : World} {sz n c b o : Nat} {cs : List Value} (h : RdS w sz (some ⟨b, o, none⟩) n c cs) {i j : Nat} {u : Value} (hi : cs[i + j]? = some u) :
    w.cell? ⟨b, o + i + j, none⟩ = some u := by
  rw [Nat.add_assoc]; exact h.at hi

theorem RdS.big {w : World} {sz n c : Nat} {ao : Option Addr} {cs : List Value} (h : RdS w sz ao n c cs) : n ≤ 9223372036854775807 := by
  have h1 := h.le; have h2 := h.max; unfold maxLen at h2; omega

theorem RdS.same {w w' : World} {sz n c : Nat} {ao : Option Addr} {cs : List Value} (h : RdS w sz ao n c cs) (e : ∀ a, w'.cell? a = w.cell? a) : RdS w' sz ao n c cs :=
  ⟨h.len, h.le, h.max, h.nil, h.addr, fun a ha i u hu => (e _).trans (h.cell a ha i u hu), h.one⟩

theorem RdS.below {W w : World} {sz n c : Nat} {ao : Option Addr} {cs : List Value} (h : RdS W sz ao n c cs) (hb : Below W.heap.size W w) : RdS w sz ao n c cs :=
  ⟨h.len, h.le, h.max, h.nil, h.addr, fun a ha i u hu => by
    have := h.cell a ha i u hu
    exact (hb.cell (World.block_lt_of_cell? _ _ this)).trans this, h.one⟩

theorem RdS.st {W w : World} {R : List HP} {sz n c : Nat} {ao : Option Addr} {cs : List Value} (h : RdS W sz ao n c cs) (s : St W w R) : RdS w sz ao n c cs := h.below s.1

theorem RdS.alloc {w : World} {sz n c : Nat} {ao : Option Addr} {cs : List Value} (h : RdS w sz ao n c cs) (ob : Obj) : RdS (w.alloc ob) sz ao n c cs :=
  ⟨h.len, h.le, h.max, h.nil, h.addr, fun a ha i u hu => by
    have := h.cell a ha i u hu
    exact (World.cell?_alloc_lt _ _ _ (World.block_lt_of_cell? _ _ this)).trans this, h.one⟩

theorem RdS.drew {w : World} {sz n c : Nat} {ao : Option Addr} {cs : List Value} (h : RdS w sz ao n c cs) : RdS w.drew sz ao n c cs := h.same fun _ => rfl
theorem RdS.drewN {w : World} {sz n c : Nat} {ao : Option Addr} {cs : List Value} (h : RdS w sz ao n c cs) (k : Nat) : RdS (w.drewN k) sz ao n c cs := h.same fun _ => rfl

theorem RdS.none0 (w : World) (sz : Nat) : RdS w sz none 0 0 [] := ⟨by simp, Nat.le_refl _, by simp [maxLen], fun _ => rfl, fun h => absurd h (by decide), fun _ h => (by cases h), fun _ h => (by cases h)⟩

/-- The cells of an owned slice: those of its elements, and the spare ones. -/
def ownCells (ao : Option Addr) (vs : List Value) : HP := match ao with
  | some ⟨b, o, none⟩ => row b o vs
  | _ => emp

structure OwnP (sz : Nat) (ao : Option Addr) (n c : Nat) (cs sp : List Value) : Prop where
  len : cs.length = n * sz
  spare : sp.length = (c - n) * sz
  le : n ≤ c
  max : c ≤ maxLen
  nil : ao = none → c = 0
  addr : 0 < c → ∃ b o, ao = some ⟨b, o, none⟩
  one : ∀ u ∈ cs, u.oneCell' = true

def OwnS (sz : Nat) (ao : Option Addr) (n c : Nat) (cs : List Value) : HP := fun h => ∃ sp, OwnP sz ao n c cs sp ∧ ownCells ao (cs ++ sp) h

section
variable {W w : World} {R : List HP} {sz n c : Nat} {ao : Option Addr} {cs : List Value}

theorem OwnS.open (s : St W w (OwnS sz ao n c cs :: R)) : ∃ sp, OwnP sz ao n c cs sp ∧ St W w (ownCells ao (cs ++ sp) :: R) := by
  obtain ⟨sp, s⟩ := St.ex (F := fun sp h => OwnP sz ao n c cs sp ∧ ownCells ao (cs ++ sp) h) s
  obtain ⟨p, s⟩ := s.pure
  exact ⟨sp, p, s⟩

theorem OwnS.close {sp : List Value} (p : OwnP sz ao n c cs sp) (s : St W w (ownCells ao (cs ++ sp) :: R)) : St W w (OwnS sz ao n c cs :: R) :=
  s.imp fun _ x => ⟨sp, p, x⟩

theorem OwnS.rd (s : St W w (OwnS sz ao n c cs :: R)) : RdS w sz ao n c cs := by
  obtain ⟨sp, p, s⟩ := OwnS.open s
  refine ⟨p.len, p.le, p.max, p.nil, fun h => p.addr (by have := p.le; omega), fun a ha i u hi => ?_, p.one⟩
  subst ha
  have hc : 0 < c := by
    have h1 : i < cs.length := by
      rcases Nat.lt_or_ge i cs.length with g | g
      · exact g
      · rw [List.getElem?_eq_none g] at hi; cases hi
    rw [p.len] at h1
    rcases Nat.eq_zero_or_pos n with g | g
    · subst g; simp at h1
    · have := p.le; omega
  obtain ⟨b, o, e⟩ := p.addr hc
  cases e
  rw [add_plain']
  have hil : i < cs.length := by
    rcases Nat.lt_or_ge i cs.length with g | g
    · exact g
    · rw [List.getElem?_eq_none g] at hi; cases hi
  have s1 : St W w (row b o (cs ++ sp) :: R) := s
  exact s1.rowCell (by rw [List.getElem?_append_left hil]; exact hi)

theorem OwnS.none0 (s : St W w R) : St W w (OwnS sz none 0 0 [] :: R) :=
  OwnS.close (sp := []) ⟨by simp, by simp, Nat.le_refl _, by simp [maxLen], fun _ => rfl, fun h => absurd h (by decide), fun _ h => by cases h⟩ s.empD

/-- An empty slice owns nothing. -/
theorem OwnS.empty (s : St W w R) (ao : Option Addr) : St W w (OwnS sz ao 0 0 [] :: R) := by
  refine OwnS.close (sp := []) ⟨by simp, by simp, Nat.le_refl _, by simp [maxLen], fun _ => rfl, fun h => absurd h (by decide), fun _ h => by cases h⟩ ?_
  match ao with
  | none => exact s.empD
  | some ⟨b, o, none⟩ => exact St.rowNil.1 s
  | some ⟨b, o, some _⟩ => exact s.empD

/-- The first k elements are given up. -/
theorem OwnS.cut (s : St W w (OwnS sz ao n c cs :: R)) {k : Nat} (hk : k ≤ n) :
    St W w (OwnS sz (if c = k then ao else ao.map (·.add (k * sz))) (n - k) (c - k) (cs.drop (k * sz)) :: R) := by
  obtain ⟨sp, p, s⟩ := OwnS.open s
  have hle := p.le
  by_cases hc : c = k
  · have hn : n = k := by omega
    subst hc
    have e1 : n - c = 0 := by omega
    have e2 : cs.drop (c * sz) = [] := List.drop_eq_nil_of_le (by rw [p.len, hn]; exact Nat.le_refl _)
    rw [if_pos rfl, e1, e2, Nat.sub_self]
    exact OwnS.empty s.drop ao
  · rw [if_neg hc]
    obtain ⟨b, o, rfl⟩ := p.addr (by omega)
    simp only [Option.map_some, add_plain']
    have hkl : k * sz ≤ cs.length := by rw [p.len]; exact Nat.mul_le_mul_right _ hk
    refine OwnS.close (sp := sp) ⟨?_, ?_, by omega, by have := p.max; omega, by simp, fun _ => ⟨_, _, rfl⟩, fun u hu => p.one u (List.mem_of_mem_drop hu)⟩ ?_
    · rw [List.length_drop, p.len, Nat.sub_mul]
    · rw [p.spare]; congr 1; omega
    · have s' : St W w (row b o (cs.take (k * sz) ++ (cs.drop (k * sz) ++ sp)) :: R) := by
        rw [← List.append_assoc, List.take_append_drop]; exact s
      have := (St.rowAppend.1 s').drop
      rw [List.length_take, Nat.min_eq_left hkl] at this
      exact this

end

/-- What the table says of a slice's type. -/
structure ElemT (P : Program) (t e : TypeId) (sz bytes : Nat) : Prop where
  und : P.underlying t = some (.slice e)
  info : ∃ i z, P.info? e = some i ∧ i.zero = some z ∧ i.size = sz ∧ i.bytes = bytes ∧ z.cells.size = sz ∧ ∀ u ∈ z.cells.toList, u.oneCell' = true
  pos : 0 < sz

theorem ElemT.mk' {P : Program} {t e : TypeId} {sz bytes : Nat} {z : Value} (h : P.underlying t = some (.slice e)) (hi : (P.info? e).map (fun i => (i.zero, i.size, i.bytes)) = some (some z, sz, bytes))
    (hz : z.cells.size = sz) (hp : 0 < sz) (ho : ∀ u ∈ z.cells.toList, u.oneCell' = true) : ElemT P t e sz bytes :=
  ⟨h, by obtain ⟨i, h1, h2, h3, h4⟩ := info_parts hi; exact ⟨i, z, h1, h2, h3, h4, hz, ho⟩, hp⟩

section
variable {P : Program} {W w : World} {R : List HP} {sz bytes n c m cx : Nat} {ao ax : Option Addr} {cs news : List Value} {t e : TypeId}

/-- 'append' onto an owned slice: what was there, and what was read, is owned behind it. -/
theorem run_append_st (E : ElemT P t e sz bytes) (ty : TypeId) (s : St W w (OwnS sz ao n c cs :: R)) (rd : RdS w sz ax m cx news) (b1 : (n + m) ≤ maxLen) (b2 : (n + m) * bytes ≤ 140737488355328) :
    ∃ ao' c' w', (Builtin.append_ #[t, t] ty #[.slice ao n c, .slice ax m cx]).run P w = .ok (.slice ao' (n + m) c') w' ∧ St W w' (OwnS sz ao' (n + m) c' (cs ++ news) :: R) ∧ (n + m ≤ c → ao' = ao ∧ c' = c) := by
  obtain ⟨i, z, hi, hz, hsz, hby, hzs, hzo⟩ := E.info
  have hpos := E.pos
  obtain ⟨sp, p, s'⟩ := OwnS.open s
  have hrd := OwnS.rd s
  by_cases hfit : n + m ≤ c
  · -- there is room
    by_cases hm : m = 0
    · subst hm
      have hn0 : news = [] := List.eq_nil_of_length_eq_zero (by simpa using rd.len)
      subst hn0
      refine ⟨ao, c, w, ?_, by simpa using s, fun _ => ⟨rfl, rfl⟩⟩
      have hf : ∀ (x : Option Addr), (Builtin.firstCells sz 0 (.slice x 0 cx)).run P w = .ok #[] w := by
        intro x
        cases x with
        | none => simp [Builtin.firstCells]
        | some x => exact run_firstCells_some (P := P) w sz 0 x 0 cx [] (by simp) (by simp)
      cases ao with
      | none => simp [Builtin.append_, run_underlying E.und, sizeOf, typeInfo, hi, Builtin.lenOf, p.le, hsz, hf]
      | some x => simp [Builtin.append_, run_underlying E.und, sizeOf, typeInfo, hi, Builtin.lenOf, p.le, hsz, hf, storeCells]
    · obtain ⟨b, o, rfl⟩ := p.addr (by omega)
      obtain ⟨bx, ox, rfl⟩ := rd.addr (by omega)
      subst hsz
      have hspl : sp.length = (c - n) * i.size := p.spare
      have hnl : news.length ≤ sp.length := by rw [rd.len, hspl]; exact Nat.mul_le_mul_right _ (by omega)
      have hrow : St W w (row b o (cs ++ sp) :: R) := s'
      have hcell : ∀ j, j < news.length → (w.cell? ⟨b, o + n * i.size + j, none⟩).isSome = true ∧ w.frozen? ⟨b, o + n * i.size + j, none⟩ = false := by
        intro j hj
        have hlt : n * i.size + j < (cs ++ sp).length := by rw [List.length_append, p.len]; omega
        have h1 := hrow.rowCell (List.getElem?_eq_getElem hlt)
        have h2 := hrow.rowFree hlt
        rw [← Nat.add_assoc] at h1 h2
        exact ⟨by rw [h1]; rfl, h2⟩
      have hrun := run_append_room_cells (P := P) w t ty e i E.und hi b o n c ⟨bx, ox, none⟩ m cx news rd.len (fun j u hj => rd.cell _ rfl j u hj) rd.one hfit (fun j hj => (hcell j hj).1) (fun j hj => (hcell j hj).2)
      refine ⟨_, _, _, hrun, ?_, fun _ => ⟨rfl, rfl⟩⟩
      have h1 := St.rowAppend.1 hrow
      rw [p.len] at h1
      have h2 : St W w (row (b) (o + n * i.size) sp :: row b o cs :: R) := h1.pick 1
      rw [show sp = sp.take news.length ++ sp.drop news.length from (List.take_append_drop _ _).symm] at h2
      have h3 := St.rowAppend.1 h2
      have hlt : (sp.take news.length).length = news.length := by rw [List.length_take]; omega
      have h4 := h3.setCells (us := news) hlt.symm
      rw [hlt] at h4
      refine OwnS.close (sp := sp.drop news.length) ⟨?_, ?_, hfit, p.max, by simp, fun _ => ⟨_, _, rfl⟩, ?_⟩ ?_
      · rw [List.length_append, p.len, rd.len, Nat.add_mul]
      · rw [List.length_drop, hspl, rd.len, ← Nat.sub_mul]; congr 1; omega
      · intro u hu
        rcases List.mem_append.1 hu with g | g
        · exact p.one u g
        · exact rd.one u g
      · have h5 : St W (w.setCells b (o + n * i.size) news) (row b o cs :: row b (o + n * i.size) news :: row b (o + n * i.size + news.length) (sp.drop news.length) :: R) := h4.pick 2
        have h6 : St W (w.setCells b (o + n * i.size) news) (row b o (cs ++ (news ++ sp.drop news.length)) :: R) := by
          refine St.rowAppend.2 ?_
          rw [p.len]
          have h7 := St.pick 1 h5
          have h8 : St W (w.setCells b (o + n * i.size) news) (row b (o + n * i.size) news :: row b (o + n * i.size + news.length) (sp.drop news.length) :: row b o cs :: R) := St.pick 1 (St.pick 2 h7)
          exact St.pick 1 (St.rowAppend.2 h8)
        rw [← List.append_assoc] at h6
        exact h6
  · -- a new array
    have hm : 0 < m := by have := p.le; omega
    obtain ⟨bx, ox, rfl⟩ := rd.addr hm
    have key : ∃ v' w', (Builtin.append_ #[t, t] ty #[.slice ao n c, .slice (some ⟨bx, ox, none⟩) m cx]).run P w = .ok v' w' ∧ w'.ownsRow w.heap.size e sz v' (n + m) (cs ++ news) ∧ w.grownBy w' none := by
      cases ao with
      | none =>
        have hc0 := p.nil rfl
        have hn0 : n = 0 := by have := p.le; omega
        subst hc0; subst hn0
        have : cs = [] := List.eq_nil_of_length_eq_zero (by simpa using p.len)
        subst this
        obtain ⟨v', w', h1, h2, h3, _⟩ := run_append_own (P := P) w w.heap.size t ty e i z sz bytes E.und hi hz hsz hby hzs hpos (.slice none 0 0) 0 [] (World.ownsRow_nil w _ e sz) ⟨bx, ox, none⟩ m cx news rd.len (fun j u hj => rd.cell _ rfl j u hj) rd.one b1 b2 (Nat.le_refl _)
        exact ⟨v', w', h1, h2, h3⟩
      | some x =>
        exact run_append_arg_grows (P := P) w t ty e i z sz bytes E.und hi hz hsz hby hzs hpos x n c cs p.len (fun j u hj => hrd.cell x rfl j u hj) ⟨bx, ox, none⟩ m cx news rd.len (fun j u hj => rd.cell _ rfl j u hj) (by omega) b1 b2
    obtain ⟨v', w', hrun, ⟨hlen, hcase⟩, hg⟩ := key
    rcases hcase with ⟨_, h0⟩ | ⟨g, cap, cur, rfl, hge, hh, hn, hcap, hsize, htake⟩
    · omega
    · refine ⟨_, _, _, hrun, ?_, fun h => absurd h (by omega)⟩
      have s1 := s'.drop.grown hg hge hh
      refine OwnS.close (sp := cur.toList.drop ((n + m) * sz)) ⟨hlen, ?_, hn, hcap, by simp, fun _ => ⟨_, _, rfl⟩, ?_⟩ ?_
      · rw [List.length_drop, Array.length_toList, hsize, ← Nat.sub_mul]
      · intro u hu
        rcases List.mem_append.1 hu with g | g
        · exact p.one u g
        · exact rd.one u g
      · show St W w' (row g 0 _ :: R)
        rw [← htake, List.take_append_drop]
        exact s1

/-- A slice that can be read as long as the resources R are there. -/
def Rds (W : World) (R : List HP) (sz : Nat) (ao : Option Addr) (n c : Nat) (cs : List Value) : Prop := ∀ w, St W w R → RdS w sz ao n c cs

/-- The same, for the walk. -/
theorem wpl_append {ops : Array Oper} {rest : List Oper} {o : Oper} {a : Act} {Q : Exit → Act → World → Prop} (hgd : o.guard = none) (s x : Operand)
    (hop : o.op = Op.call { callee := Callee.builtin Builtin.append, args := #[s, x], argTypes := #[t, t] }) (E : ElemT P t e sz bytes)
    (hs : a.eval s = .slice ao n c) (hx : a.eval x = .slice ax m cx) (st : St W w (OwnS sz ao n c cs :: R)) (rd : RdS w sz ax m cx news) (b2 : (n + m) * bytes ≤ 140737488355328) (b1 : n + m ≤ maxLen)
    (hK : ∀ ao' c' w', St W w' (OwnS sz ao' (n + m) c' (cs ++ news) :: R) → wpList P ops Q rest (a.put o.dst (.slice ao' (n + m) c')) w') :
    wpList P ops Q (o :: rest) a w := by
  refine wpList_plain hgd fun K hK' => ?_
  obtain ⟨ao', c', w', hrun, st', _⟩ := run_append_st E o.type st rd b1 b2
  unfold Oper.wp
  simp [execOp, hop, resolve, invoke, builtin, hs, hx, hrun, Result.andThen]
  exact hK' _ _ (hK _ _ _ st')

/-- The same, where there is room: the slice stays where it is. -/
theorem wpl_append_room {ops : Array Oper} {rest : List Oper} {o : Oper} {a : Act} {Q : Exit → Act → World → Prop} (hgd : o.guard = none) (s x : Operand)
    (hop : o.op = Op.call { callee := Callee.builtin Builtin.append, args := #[s, x], argTypes := #[t, t] }) (E : ElemT P t e sz bytes)
    (hs : a.eval s = .slice ao n c) (hx : a.eval x = .slice ax m cx) (st : St W w (OwnS sz ao n c cs :: R)) (rd : RdS w sz ax m cx news) (b2 : (n + m) * bytes ≤ 140737488355328) (b1 : n + m ≤ maxLen) (hroom : n + m ≤ c)
    (hK : ∀ w', St W w' (OwnS sz ao (n + m) c (cs ++ news) :: R) → wpList P ops Q rest (a.put o.dst (.slice ao (n + m) c)) w') :
    wpList P ops Q (o :: rest) a w := by
  refine wpList_plain hgd fun K hK' => ?_
  obtain ⟨ao', c', w', hrun, st', h3⟩ := run_append_st E o.type st rd b1 b2
  obtain ⟨rfl, rfl⟩ := h3 hroom
  unfold Oper.wp
  simp [execOp, hop, resolve, invoke, builtin, hs, hx, hrun, Result.andThen]
  exact hK' _ _ (hK _ st')

/-- The same, as one step of a region that draws its order. -/
theorem step_append_st {ops : Array Oper} {o : Oper} {a : Act} {K : Act → World → Prop} {Q : Exit → Act → World → Prop} {EE : Prop} (hgd : o.guard = none) (s x : Operand)
    (hop : o.op = Op.call { callee := Callee.builtin Builtin.append, args := #[s, x], argTypes := #[t, t] }) (E : ElemT P t e sz bytes)
    (hs : a.eval s = .slice ao n c) (hx : a.eval x = .slice ax m cx) (st : St W w (OwnS sz ao n c cs :: R)) (rd : RdS w sz ax m cx news) (b2 : (n + m) * bytes ≤ 140737488355328) (b1 : n + m ≤ maxLen)
    (hK : ∀ ao' c' w', St W w' (OwnS sz ao' (n + m) c' (cs ++ news) :: R) → K (a.put o.dst (.slice ao' (n + m) c')) w') :
    if Region.wanted o (yielded ops a.tmps) = true then Oper.wp P o a w K Q else EE := by
  have hw : Region.wanted o (yielded ops a.tmps) = true := by simp [Region.wanted, hgd]
  rw [if_pos hw]
  obtain ⟨ao', c', w', hrun, st', _⟩ := run_append_st E o.type st rd b1 b2
  unfold Oper.wp
  simp [execOp, hop, resolve, invoke, builtin, hs, hx, hrun, Result.andThen]
  exact hK _ _ _ st'

/-- 'max' and 'min' of two ints, without parting. -/
theorem wpl_max {ops : Array Oper} {rest : List Oper} {o : Oper} {a : Act} {Q : Exit → Act → World → Prop} (hgd : o.guard = none) (x y : Operand) {ty : Array TypeId}
    (hop : o.op = Op.call { callee := Callee.builtin Builtin.max, args := #[x, y], argTypes := ty }) {k : IntKind} {i j : Int} (hx : a.eval x = .int k i) (hy : a.eval y = .int k j)
    (hK : wpList P ops Q rest (a.put o.dst (.int k (max i j))) w) : wpList P ops Q (o :: rest) a w := by
  refine wpList_plain hgd fun K hK' => ?_
  have hrun : (Builtin.max_ ty o.type #[.int k i, .int k j]).run P w = .ok (.int k (max i j)) w := by
    simp only [Builtin.max_, List.foldlM, Builtin.max2]
    have : (if j > i then j else i) = max i j := by rw [Int.max_def]; split <;> split <;> omega
    simp [this]
  unfold Oper.wp
  simp [execOp, hop, resolve, invoke, builtin, hx, hy, hrun, Result.andThen]
  exact hK' _ _ hK

theorem wpl_min {ops : Array Oper} {rest : List Oper} {o : Oper} {a : Act} {Q : Exit → Act → World → Prop} (hgd : o.guard = none) (x y : Operand) {ty : Array TypeId}
    (hop : o.op = Op.call { callee := Callee.builtin Builtin.min, args := #[x, y], argTypes := ty }) {k : IntKind} {i j : Int} (hx : a.eval x = .int k i) (hy : a.eval y = .int k j)
    (hK : wpList P ops Q rest (a.put o.dst (.int k (min i j))) w) : wpList P ops Q (o :: rest) a w := by
  refine wpList_plain hgd fun K hK' => ?_
  have hrun : (Builtin.min_ ty o.type #[.int k i, .int k j]).run P w = .ok (.int k (min i j)) w := by
    simp only [Builtin.min_, List.foldlM, Builtin.min2]
    have : (if j < i then j else i) = min i j := by rw [Int.min_def]; split <;> split <;> omega
    simp [this]
  unfold Oper.wp
  simp [execOp, hop, resolve, invoke, builtin, hx, hy, hrun, Result.andThen]
  exact hK' _ _ hK

/-- The last elements become spare. -/
theorem OwnS.short (st : St W w (OwnS sz ao n c cs :: R)) {k : Nat} (hk : k ≤ n) : St W w (OwnS sz ao k c (cs.take (k * sz)) :: R) := by
  obtain ⟨sp, p, s⟩ := OwnS.open st
  have hkl : k * sz ≤ cs.length := by rw [p.len]; exact Nat.mul_le_mul_right _ hk
  have hle := p.le
  refine OwnS.close (sp := cs.drop (k * sz) ++ sp) ⟨by rw [List.length_take, Nat.min_eq_left hkl], ?_, by omega, p.max, p.nil, p.addr, fun u hu => p.one u (List.mem_of_mem_take hu)⟩ ?_
  · rw [List.length_append, List.length_drop, p.spare, p.len, ← Nat.sub_mul, ← Nat.add_mul]; congr 1; omega
  · rw [← List.append_assoc, List.take_append_drop]; exact s

theorem RdS.short {cs : List Value} (h : RdS w sz ao n c cs) {k : Nat} (hk : k ≤ n) : RdS w sz ao k c (cs.take (k * sz)) := by
  have hkl : k * sz ≤ cs.length := by rw [h.len]; exact Nat.mul_le_mul_right _ hk
  have hle := h.le
  refine ⟨by rw [List.length_take, Nat.min_eq_left hkl], by omega, h.max, h.nil, fun hp => h.addr (by omega), fun a ha i u hu => ?_, fun u hu => h.one u (List.mem_of_mem_take hu)⟩
  rw [List.getElem?_take] at hu
  split at hu
  · exact h.cell a ha i u hu
  · cases hu

/-- What 's[n:]' is of a slice of capacity c. -/
def TailOf (sz : Nat) (ao : Option Addr) (n c : Nat) (ax : Option Addr) (cx : Nat) : Prop := ax = (if c = n then ao else ao.map (·.add (n * sz))) ∧ cx = c - n

theorem RdS.tail {cs : List Value} (h : RdS w sz ao n c cs) {k n' : Nat} (hn : n' + k = n) {cx : Nat} (ht : TailOf sz ao k c ax cx) : RdS w sz ax n' cx (cs.drop (k * sz)) := by
  obtain ⟨rfl, rfl⟩ := ht
  have hle := h.le
  have hmax := h.max
  refine ⟨by rw [List.length_drop, h.len, ← Nat.sub_mul]; congr 1; omega, by omega, by omega, fun hn0 => ?_, fun hp => ?_, fun a ha i u hu => ?_, fun u hu => h.one u (List.mem_of_mem_drop hu)⟩
  · split at hn0
    · omega
    · have := h.nil (by simpa using hn0); omega
  · rw [if_neg (by omega)]
    obtain ⟨b, o, rfl⟩ := h.addr (by omega)
    exact ⟨b, o + k * sz, by simp [add_plain']⟩
  · rw [List.getElem?_drop] at hu
    have hlt : k * sz + i < cs.length := by
      rcases Nat.lt_or_ge (k * sz + i) cs.length with g | g
      · exact g
      · rw [List.getElem?_eq_none g] at hu; cases hu
    have hn0 : 0 < n' := by
      rcases Nat.eq_zero_or_pos n' with g | g
      · subst g; rw [h.len, ← hn] at hlt; simp at hlt; omega
      · exact g
    rw [if_neg (by omega)] at ha
    obtain ⟨b, o, rfl⟩ := h.addr (by omega)
    simp only [Option.map_some, Option.some.injEq, add_plain'] at ha
    subst ha
    rw [add_plain']
    have := h.at hu
    rwa [show o + k * sz + i = o + (k * sz + i) from by omega]

/-- 's[lo:]', 's[lo:hi]' of any slice. -/
theorem wpl_tail {ops : Array Oper} {rest : List Oper} {o : Oper} {a : Act} {Q : Exit → Act → World → Prop} (hgd : o.guard = none) (x lo : Operand)
    (hop : o.op = Op.slice t x (some lo) none none) (E : ElemT P t e sz bytes) (k : Nat) {n' : Nat} (hx : a.eval x = .slice ao n c) (hlo : a.eval lo = .int .i64 k) (hn : n' + k = n)
    (hK : ∀ ax cx, TailOf sz ao k c ax cx → wpList P ops Q rest (a.put o.dst (.slice ax n' cx)) w) :
    wpList P ops Q (o :: rest) a w := by
  refine wpList_plain hgd fun K hK' => ?_
  obtain ⟨i, z, hi, hz, hsz, hby, hzs, hzo⟩ := E.info
  have hrun : (Instr.slice t (.slice ao n c) (some (.int .i64 k)) none none).run P w = .ok (.slice (if c = k then ao else ao.map (·.add (k * sz))) n' (c - k)) w := by
    have hkn : (k : Int) ≤ (n : Int) := by omega
    simp [Instr.slice, run_underlying E.und, Instr.sliceBounds, run_sliceBound, hkn, sizeOf, typeInfo, hi, hsz]
    omega
  unfold Oper.wp
  have hat := run_sliceAt_slice (P := P) w t (.slice ao n c) (some (.int .i64 k)) none none (by rw [E.und]; simp [Program.elem, E.und])
  simp [execOp, hop, hx, hlo, hat, hrun, Result.andThen]
  exact hK' _ _ (hK _ _ ⟨rfl, rfl⟩)

theorem wpl_mid {ops : Array Oper} {rest : List Oper} {o : Oper} {a : Act} {Q : Exit → Act → World → Prop} (hgd : o.guard = none) (x lo hi : Operand)
    (hop : o.op = Op.slice t x (some lo) (some hi) none) (E : ElemT P t e sz bytes) (k m : Nat) {n' : Nat} (hx : a.eval x = .slice ao n c) (hlo : a.eval lo = .int .i64 k) (hhi : a.eval hi = .int .i64 m) (hn : n' + k = m) (hm : m ≤ c)
    (hK : ∀ ax cx, TailOf sz ao k c ax cx → wpList P ops Q rest (a.put o.dst (.slice ax n' cx)) w) :
    wpList P ops Q (o :: rest) a w := by
  refine wpList_plain hgd fun K hK' => ?_
  obtain ⟨i, z, hi', hz, hsz, hby, hzs, hzo⟩ := E.info
  have hrun : (Instr.slice t (.slice ao n c) (some (.int .i64 k)) (some (.int .i64 m)) none).run P w = .ok (.slice (if c = k then ao else ao.map (·.add (k * sz))) n' (c - k)) w := by
    have hkn : (k : Int) ≤ (m : Int) := by omega
    have hmc : (m : Int) ≤ (c : Int) := by omega
    simp [Instr.slice, run_underlying E.und, Instr.sliceBounds, run_sliceBound, hkn, hmc, sizeOf, typeInfo, hi', hsz]
    omega
  unfold Oper.wp
  have hat := run_sliceAt_slice (P := P) w t (.slice ao n c) (some (.int .i64 k)) (some (.int .i64 m)) none (by rw [E.und]; simp [Program.elem, E.und])
  simp [execOp, hop, hx, hlo, hhi, hat, hrun, Result.andThen]
  exact hK' _ _ (hK _ _ ⟨rfl, rfl⟩)

theorem run_slice_to (E : ElemT P t e sz bytes) (ao : Option Addr) (n c k : Nat) (hk : k ≤ c) (w : World) : (Instr.slice t (.slice ao n c) none (some (.int .i64 k)) none).run P w = .ok (.slice ao k c) w := by
  obtain ⟨i, z, hi', hz, hsz, hby, hzs, hzo⟩ := E.info
  have hmc : (k : Int) ≤ (c : Int) := by omega
  have h0 : ao.map (·.add (0 * sz)) = ao := by cases ao <;> simp [Addr.add]
  simp [Instr.slice, run_underlying E.und, Instr.sliceBounds, run_sliceBound, hmc, sizeOf, typeInfo, hi']
  intro _
  simpa using h0

theorem run_slice_from (E : ElemT P t e sz bytes) (ao : Option Addr) (n c k n' : Nat) {i : Int} (hik : i = k) (hn : n' + k = n) :
    ∃ ax cx, TailOf sz ao k c ax cx ∧ ∀ w, (Instr.slice t (.slice ao n c) (some (.int .i64 i)) none none).run P w = .ok (.slice ax n' cx) w := by
  subst hik
  obtain ⟨i, z, hi, hz, hsz, hby, hzs, hzo⟩ := E.info
  refine ⟨_, _, ⟨rfl, rfl⟩, fun w => ?_⟩
  have hkn : (k : Int) ≤ (n : Int) := by omega
  simp [Instr.slice, run_underlying E.und, Instr.sliceBounds, run_sliceBound, hkn, sizeOf, typeInfo, hi, hsz]
  omega

theorem zeroCells_one (z : Array Value) (n : Nat) (h : ∀ u ∈ z.toList, u.oneCell' = true) : ∀ u ∈ (Builtin.zeroCells z n).toList, u.oneCell' = true := by
  intro u hu
  simp only [Builtin.zeroCells, Array.toList_map, List.mem_map, Array.mem_toList_iff, Array.mem_range] at hu
  obtain ⟨i, hi, rfl⟩ := hu
  have hz : 0 < z.size := by
    rcases Nat.eq_zero_or_pos z.size with g | g
    · rw [g] at hi; simp at hi
    · exact g
  have hlt : i % z.size < z.size := Nat.mod_lt _ hz
  rw [getElem!_pos z _ hlt]
  exact h _ (by simp)

/-- 'clear' of spare places. -/
theorem run_clear_st (E : ElemT P t e sz bytes) (ty : TypeId) (st : St W w (OwnS sz ao n c cs :: R)) {k : Nat} (hk : n + k ≤ c) {cx : Nat} (ht : TailOf sz ao n c ax cx) :
    ∃ w', (Builtin.clear_ #[t] ty #[.slice ax k cx]).run P w = .ok (.tuple #[]) w' ∧ St W w' (OwnS sz ao n c cs :: R) := by
  obtain ⟨rfl, rfl⟩ := ht
  obtain ⟨i, z, hi, hz, hsz, hby, hzs, hzo⟩ := E.info
  rcases Nat.eq_zero_or_pos k with g | g
  · subst g
    refine ⟨w, ?_, st⟩
    by_cases h : c = n
    · rw [if_pos h]; cases ao <;> simp [Builtin.clear_, run_underlying E.und]
    · rw [if_neg h]; cases ao <;> simp [Builtin.clear_, run_underlying E.und]
  · obtain ⟨sp, p, s⟩ := OwnS.open st
    obtain ⟨b, o, rfl⟩ := p.addr (by omega)
    rw [if_neg (by omega)]
    simp only [Option.map_some, add_plain']
    let zs := (Builtin.zeroCells z.cells k).toList
    have hzl : zs.length = k * sz := by show (Builtin.zeroCells z.cells k).toList.length = _; rw [Array.length_toList, size_zeroCells, hzs]
    have hsl : zs.length ≤ sp.length := by rw [hzl, p.spare]; exact Nat.mul_le_mul_right _ (by omega)
    have s1 : St W w (row b o (cs ++ (sp.take zs.length ++ sp.drop zs.length)) :: R) := by rw [List.take_append_drop]; exact s
    have s2 : St W w (row b (o + n * sz) (sp.take zs.length ++ sp.drop zs.length) :: row b o cs :: R) := by
      have := (St.rowAppend.1 s1).pick 1
      rw [p.len] at this
      exact this
    have s3 := St.rowAppend.1 s2
    have htl : (sp.take zs.length).length = zs.length := by rw [List.length_take]; omega
    have s4 := s3.setCells (us := zs) htl.symm
    rw [htl] at s4
    have hcell : ∀ j, j < zs.length → (w.cell? ⟨b, o + n * sz + 0 + j, none⟩).isSome = true := fun j hj => by
      rw [Nat.add_zero, s3.rowCell (List.getElem?_eq_getElem (by omega : j < (sp.take zs.length).length))]; rfl
    have hfree : ∀ j, j < zs.length → w.frozen? ⟨b, o + n * sz + 0 + j, none⟩ = false := fun j hj => by
      rw [Nat.add_zero]; exact s3.rowFree (by omega)
    have hst := run_storeCells_cells (P := P) b (o + n * sz) zs 0 w hcell hfree (zeroCells_one z.cells k hzo)
    rw [Nat.add_zero] at hst
    refine ⟨w.setCells b (o + n * sz) zs, ?_, ?_⟩
    · have hk0 : k ≠ 0 := by omega
      have hst' : (storeCells ⟨b, o + n * sz, none⟩ (Builtin.zeroCells z.cells k).toList).run P w = .ok () (w.setCells b (o + n * sz) zs) := hst
      simp [Builtin.clear_, run_underlying E.und, zeroValue, typeInfo, hi, hz, hst', hk0]
    · refine OwnS.close (sp := zs ++ sp.drop zs.length) ⟨p.len, ?_, p.le, p.max, p.nil, p.addr, p.one⟩ ?_
      · rw [List.length_append, List.length_drop]; have := p.spare; omega
      · have s5 : St W (w.setCells b (o + n * sz) zs) (row b (o + n * sz) (zs ++ sp.drop zs.length) :: row b o cs :: R) := St.rowAppend.2 s4
        have s6 : St W (w.setCells b (o + n * sz) zs) (row b o cs :: row b (o + n * sz) (zs ++ sp.drop zs.length) :: R) := s5.pick 1
        refine St.rowAppend.2 ?_
        rw [p.len]
        exact s6

theorem wpl_clear {ops : Array Oper} {rest : List Oper} {o : Oper} {a : Act} {Q : Exit → Act → World → Prop} (hgd : o.guard = none) (x : Operand)
    (hop : o.op = Op.call { callee := Callee.builtin Builtin.clear, args := #[x], argTypes := #[t] }) (E : ElemT P t e sz bytes)
    {k cx : Nat} (hx : a.eval x = .slice ax k cx) (st : St W w (OwnS sz ao n c cs :: R)) (hk : n + k ≤ c) (ht : TailOf sz ao n c ax cx)
    (hK : ∀ w', St W w' (OwnS sz ao n c cs :: R) → wpList P ops Q rest (a.put o.dst (.tuple #[])) w') :
    wpList P ops Q (o :: rest) a w := by
  refine wpList_plain hgd fun K hK' => ?_
  obtain ⟨w', hrun, st'⟩ := run_clear_st E o.type st hk ht
  unfold Oper.wp
  simp [execOp, hop, resolve, invoke, builtin, hx, hrun, Result.andThen]
  exact hK' _ _ (hK _ st')

/-- 's[k:]' of an owned slice. -/
theorem wpl_cut {ops : Array Oper} {rest : List Oper} {o : Oper} {a : Act} {Q : Exit → Act → World → Prop} (hgd : o.guard = none) (x lo : Operand)
    (hop : o.op = Op.slice t x (some lo) none none) (E : ElemT P t e sz bytes) (k : Nat) {n' : Nat} (hx : a.eval x = .slice ao n c) (hlo : a.eval lo = .int .i64 k) (st : St W w (OwnS sz ao n c cs :: R)) (hn : n' + k = n)
    (hK : ∀ ao' c', St W w (OwnS sz ao' n' c' (cs.drop (k * sz)) :: R) → wpList P ops Q rest (a.put o.dst (.slice ao' n' c')) w) :
    wpList P ops Q (o :: rest) a w := by
  refine wpList_plain hgd fun K hK' => ?_
  obtain ⟨i, z, hi, hz, hsz, hby, hzs, hzo⟩ := E.info
  have hk : k ≤ n := by omega
  have st' := OwnS.cut st hk
  rw [show n - k = n' from by omega] at st'
  have hrun : (Instr.slice t (.slice ao n c) (some (.int .i64 k)) none none).run P w = .ok (.slice (if c = k then ao else ao.map (·.add (k * sz))) n' (c - k)) w := by
    have hkn : (k : Int) ≤ (n : Int) := by omega
    simp [Instr.slice, run_underlying E.und, Instr.sliceBounds, run_sliceBound, hkn, sizeOf, typeInfo, hi, hsz]
    omega
  unfold Oper.wp
  have hat := run_sliceAt_slice (P := P) w t (.slice ao n c) (some (.int .i64 k)) none none (by rw [E.und]; simp [Program.elem, E.und])
  simp [execOp, hop, hx, hlo, hat, hrun, Result.andThen]
  exact hK' _ _ (hK _ _ st')

/-- An element of an owned slice of one-cell elements is written. -/
theorem OwnS.set {b o i : Nat} {v : Value} (st : St W w (OwnS 1 (some ⟨b, o, none⟩) n c cs :: R)) (hi : i < n) (hv : v.oneCell' = true) :
    St W (w.setCell ⟨b, o + i, none⟩ v) (OwnS 1 (some ⟨b, o, none⟩) n c (cs.set i v) :: R) := by
  obtain ⟨sp, p, s⟩ := OwnS.open st
  have hl : i < cs.length := by have := p.len; omega
  have s1 : St W w (row b o (cs ++ sp) :: R) := s
  have e1 : cs ++ sp = cs.take i ++ (cs[i] :: (cs.drop (i + 1) ++ sp)) := by
    rw [← List.cons_append, ← List.append_assoc, ← List.drop_eq_getElem_cons, List.take_append_drop]
  rw [e1] at s1
  have s2 : St W w (row b (o + (cs.take i).length) (cs[i] :: (cs.drop (i + 1) ++ sp)) :: row b o (cs.take i) :: R) := (St.rowAppend.1 s1).pick 1
  rw [List.length_take, Nat.min_eq_left (Nat.le_of_lt hl)] at s2
  have s3 := (St.rowCons.1 s2).set v
  have s4 := St.rowCons.2 s3
  have s5 : St W (w.setCell ⟨b, o + i, none⟩ v) (row b o (cs.take i) :: row b (o + i) (v :: (cs.drop (i + 1) ++ sp)) :: R) := s4.pick 1
  refine OwnS.close (sp := sp) ⟨by rw [List.length_set]; exact p.len, p.spare, p.le, p.max, by simp, fun _ => ⟨_, _, rfl⟩, ?_⟩ ?_
  · intro u hu
    rcases List.mem_or_eq_of_mem_set hu with g | g
    · exact p.one u g
    · rw [g]; exact hv
  · show St W (w.setCell ⟨b, o + i, none⟩ v) (row b o (cs.set i v ++ sp) :: R)
    have e2 : cs.set i v ++ sp = cs.take i ++ (v :: (cs.drop (i + 1) ++ sp)) := by
      rw [List.set_eq_take_append_cons_drop, if_pos hl]; simp
    rw [e2]
    refine St.rowAppend.2 ?_
    rw [List.length_take, Nat.min_eq_left (Nat.le_of_lt hl)]
    exact s5

end

theorem RdS.rds {W : World} {sz n c : Nat} {ao : Option Addr} {cs : List Value} (h : RdS W sz ao n c cs) (R : List HP) : Rds W R sz ao n c cs := fun _ s => h.st s
theorem Rds.of {W : World} {R R' : List HP} {sz n c : Nat} {ao : Option Addr} {cs : List Value} (h : Rds W R sz ao n c cs) (f : ∀ w, St W w R' → St W w R) : Rds W R' sz ao n c cs := fun w s => h w (f w s)
theorem Rds.cons {W : World} {R : List HP} {A : HP} {sz n c : Nat} {ao : Option Addr} {cs : List Value} (h : Rds W R sz ao n c cs) : Rds W (A :: R) sz ao n c cs := fun w s => h w s.drop
theorem OwnS.rds {W : World} {R : List HP} {sz n c : Nat} {ao : Option Addr} {cs : List Value} : Rds W (OwnS sz ao n c cs :: R) sz ao n c cs := fun _ s => OwnS.rd s

section
variable {W w : World} {R : List HP} {sz : Nat}

/-- A row that was just made, read as a slice. -/
theorem St.rowRd {vs : List Value} {b n : Nat} (s : St W w (row b 0 vs :: R)) (hl : vs.length = n * sz) (hm : n ≤ maxLen) (ho : ∀ u ∈ vs, u.oneCell' = true) : RdS w sz (some ⟨b, 0, none⟩) n n vs :=
  ⟨hl, Nat.le_refl _, hm, by simp, fun _ => ⟨_, _, rfl⟩, fun a ha i u hu => by
    cases ha
    rw [add_plain']
    exact s.rowCell hu, ho⟩

/-- A row that was just made, owned as a slice. -/
theorem St.rowOwn {vs : List Value} {b n : Nat} (s : St W w (row b 0 vs :: R)) (hl : vs.length = n * sz) (hm : n ≤ maxLen) (ho : ∀ u ∈ vs, u.oneCell' = true) : St W w (OwnS sz (some ⟨b, 0, none⟩) n n vs :: R) :=
  OwnS.close (sp := []) ⟨hl, by simp, Nat.le_refl _, hm, by simp, fun _ => ⟨_, _, rfl⟩, ho⟩ (by rw [List.append_nil]; exact s)

end

/-- A slice that is only read: it came in, or it is owned. -/
def RdH (W : World) (sz : Nat) (ao : Option Addr) (n c : Nat) (cs : List Value) : HP := fun h => (RdS W sz ao n c cs ∧ emp h) ∨ OwnS sz ao n c cs h

section
variable {W w : World} {R : List HP} {sz n c : Nat} {ao : Option Addr} {cs : List Value}

theorem RdH.cases (s : St W w (RdH W sz ao n c cs :: R)) : (RdS W sz ao n c cs ∧ St W w R) ∨ St W w (OwnS sz ao n c cs :: R) := by
  obtain ⟨b, h, ⟨h1, h2, cc, e, a, d⟩, k⟩ := s
  rcases a with ⟨r, x⟩ | x
  · exact .inl ⟨r, St.empE ⟨b, h, ⟨h1, h2, cc, e, x, d⟩, k⟩⟩
  · exact .inr ⟨b, h, ⟨h1, h2, cc, e, x, d⟩, k⟩

theorem RdH.old (r : RdS W sz ao n c cs) (s : St W w R) : St W w (RdH W sz ao n c cs :: R) := s.empD.imp fun _ x => .inl ⟨r, x⟩
theorem RdH.own (s : St W w (OwnS sz ao n c cs :: R)) : St W w (RdH W sz ao n c cs :: R) := s.imp fun _ x => .inr x

theorem RdH.rd (s : St W w (RdH W sz ao n c cs :: R)) : RdS w sz ao n c cs := by
  rcases RdH.cases s with ⟨r, s⟩ | s
  · exact r.st s
  · exact OwnS.rd s

theorem RdH.rds : Rds W (RdH W sz ao n c cs :: R) sz ao n c cs := fun _ s => RdH.rd s

theorem RdH.tail (s : St W w (RdH W sz ao n c cs :: R)) {k n' : Nat} (hn : n' + k = n) {ax : Option Addr} {cx : Nat} (ht : TailOf sz ao k c ax cx) : St W w (RdH W sz ax n' cx (cs.drop (k * sz)) :: R) := by
  rcases RdH.cases s with ⟨r, s⟩ | s
  · exact RdH.old (r.tail hn ht) s
  · obtain ⟨rfl, rfl⟩ := ht
    have := OwnS.cut s (k := k) (by omega)
    rw [show n - k = n' from by omega] at this
    exact RdH.own this
end

/-- How long a slice's value says it is. -/
def slen : Value → Nat
  | .slice _ n _ => n
  | _ => 0

/-! Slices of int. -/
abbrev iv (n : Int) : Value := .int .i64 n
def ivs (zs : List Int) : List Value := zs.map iv
theorem ivs_len {w : World} {ao : Option Addr} {n c : Nat} {zs : List Int} (h : RdS w 1 ao n c (zs.map iv)) : zs.length = n := by have := h.len; simpa using this
theorem ivs_one (zs : List Int) : ∀ u ∈ ivs zs, u.oneCell' = true := ints_oneCell .i64 zs
theorem ivs_append (a b : List Int) : ivs (a ++ b) = ivs a ++ ivs b := List.map_append
theorem ivs_drop (a : List Int) (k : Nat) : ivs (a.drop k) = (ivs a).drop k := List.map_drop
theorem ivs_length (a : List Int) : (ivs a).length = a.length := List.length_map _
theorem ivs_get {a : List Int} {i : Nat} (h : i < a.length) : (ivs a)[i]? = some (iv a[i]) := by simp [ivs, h]

end Go.Qd
