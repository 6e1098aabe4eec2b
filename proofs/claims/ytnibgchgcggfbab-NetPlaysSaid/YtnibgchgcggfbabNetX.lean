/- NetTrue: what holds between the acts, and each act's contract in its words. -/
import Derived.Test.YtnibgchgcggfbabNetV
namespace Go.Proofs.Ytnibgchgcggfbab
open Go.RowKit Go.Qd

theorem unl_set (xs ys : List Int) (k : Nat) (X : Int) : ∀ n, unl (xs.set k X) ys n ≤ unl xs ys n + if k < n then 1 else 0
  | 0 => by simp [unl]
  | n + 1 => by
    have ih := unl_set xs ys k X n
    unfold unl
    by_cases hk : k = n
    · subst hk
      have : ¬ k < k := by omega
      rw [if_neg this] at ih
      rw [if_pos (by omega : k < k + 1)]
      split <;> split <;> omega
    · have e : (xs.set k X).getD n 0 = xs.getD n 0 := by simp [List.getElem?_set, hk]
      rw [e]
      by_cases h : k < n
      · rw [if_pos h] at ih; rw [if_pos (by omega : k < n + 1)]; split <;> omega
      · rw [if_neg h] at ih; rw [if_neg (by omega : ¬ k < n + 1)]; split <;> omega

theorem unl_self (xs : List Int) : ∀ n, unl xs xs n = 0
  | 0 => rfl
  | n + 1 => by unfold unl; rw [unl_self xs n]; simp

/-- A parcel was sent so. -/
def Sent (S : List ActV) (p : PV) : Prop := p.n ≤ 100 ∧ ∃ a ∈ S, a.x = p.f ∧ a.y = p.t ∧ a.m = p.bs.length ∧ unl p.bs a.L p.bs.length ≤ (if p.sp then 1 else 0)

structure NT (room k : Nat) (N : NetV) (S : List ActV) : Prop where
  nodes : N.nodes = 12
  rm : N.room = room + 1
  low : 0 ≤ N.dropped
  high : N.dropped ≤ k
  len : N.ps.length ≤ room + 1
  cuts : ∀ p ∈ N.cuts, p.2 = iv 1
  sent : ∀ p ∈ N.ps, Sent S p
  few : S.length ≤ k

theorem NT.start (room : Nat) : NT room 0 ⟨12, 1 + room, [], [], 0⟩ [] := ⟨rfl, by show (1 : Int) + room = room + 1; omega, Int.le_refl _, Int.le_refl _, by simp, fun _ h => (by cases h), fun _ h => (by cases h), by simp⟩

theorem NT.more {room k : Nat} {N : NetV} {S : List ActV} (h : NT room k N S) : NT room (k + 1) N S := ⟨h.nodes, h.rm, h.low, by have := h.high; omega, h.len, h.cuts, h.sent, by have := h.few; omega⟩

theorem NT.put {room k : Nat} {N : NetV} {S : List ActV} (h : NT room k N S) {p : PV} (hp : Sent S p) : NT room (k + 1) (putN N p) S := by
  unfold putN
  by_cases hr : (N.ps.length : Int) < N.room
  · rw [if_pos hr]
    refine ⟨h.nodes, h.rm, h.low, by have := h.high; show N.dropped ≤ _; omega, ?_, h.cuts, ?_, by have := h.few; omega⟩
    · have := h.rm; show (N.ps ++ [p]).length ≤ _; rw [List.length_append]; simp; omega
    · intro q hq
      rcases List.mem_append.1 hq with g | g
      · exact h.sent q g
      · have : q = p := by simpa using g
        rw [this]; exact hp
  · rw [if_neg hr]
    exact ⟨h.nodes, h.rm, by have := h.low; show 0 ≤ N.dropped + 1; omega, by have := h.high; show N.dropped + 1 ≤ _; omega, h.len, h.cuts, h.sent, by have := h.few; omega⟩

theorem NT.grow {room k : Nat} {N : NetV} {S : List ActV} (h : NT room k N S) (a : ActV) : NT room (k + 1) N (S ++ [a]) :=
  ⟨h.nodes, h.rm, h.low, by have := h.high; omega, h.len, h.cuts, fun p hp => by obtain ⟨h1, b, hb, h2⟩ := h.sent p hp; exact ⟨h1, b, List.mem_append.2 (.inl hb), h2⟩, by have := h.few; simp; omega⟩

theorem NT.sends {room k : Nat} {N : NetV} {S : List ActV} (h : NT room k N S) {a : ActV} {ao : Option Addr} {c : Nat} (h1 : a.m ≤ 100) (h2 : a.L.length = a.m) (hr : (N.ps.length : Int) < N.room) :
    NT room (k + 1) (putN N ⟨a.x, a.y, ao, a.m, c, a.L, false⟩) (S ++ [a]) := by
  have h' : NT room (k + 1) N (S ++ [a]) := h.grow a
  have := h'.put (p := ⟨a.x, a.y, ao, a.m, c, a.L, false⟩) ⟨h1, a, by simp, rfl, rfl, h2.symm, by rw [unl_self]; simp⟩
  unfold putN at this ⊢
  rw [if_pos hr] at this ⊢
  exact ⟨this.nodes, this.rm, this.low, by have := h.high; show N.dropped ≤ _; omega, this.len, this.cuts, this.sent, by have := h.few; simp; omega⟩

theorem NT.full {room k : Nat} {N : NetV} {S : List ActV} (h : NT room k N S) {p : PV} (hr : ¬ (N.ps.length : Int) < N.room) : NT room (k + 1) (putN N p) S := by
  unfold putN
  rw [if_neg hr]
  exact ⟨h.nodes, h.rm, by have := h.low; show 0 ≤ N.dropped + 1; omega, by have := h.high; show N.dropped + 1 ≤ _; omega, h.len, h.cuts, h.sent, by have := h.few; omega⟩

theorem NT.copies {room k : Nat} {N : NetV} {S : List ActV} (h : NT room k N S) {i : Nat} (hi : i < N.ps.length) (a : Option Addr) (c : Nat) : NT room (k + 1) (putN N { N.ps[i] with a := a, c := c }) S :=
  h.put (show Sent S { N.ps[i] with a := a, c := c } from (h.sent _ (List.getElem_mem hi) : Sent S N.ps[i]))

theorem NT.drops {room k : Nat} {N : NetV} {S : List ActV} (h : NT room k N S) (i : Nat) : NT room (k + 1) (dropN N i) S :=
  ⟨h.nodes, h.rm, h.low, by have := h.high; show N.dropped ≤ _; omega, by have := h.len; have := List.length_eraseIdx_le N.ps i; show (N.ps.eraseIdx i).length ≤ _; omega, h.cuts, fun p hp => h.sent p (List.mem_of_mem_eraseIdx hp), by have := h.few; omega⟩

theorem NT.turns {room k : Nat} {N : NetV} {S : List ActV} (h : NT room k N S) {i : Nat} (hi : i < N.ps.length) (hsp : N.ps[i].sp = false) (j : Nat) (X : Int) : NT room (k + 1) { N with ps := N.ps.set i (N.ps[i].turned j X) } S := by
  refine ⟨h.nodes, h.rm, h.low, by have := h.high; show N.dropped ≤ _; omega, by rw [List.length_set]; exact h.len, h.cuts, fun p hp => ?_, by have := h.few; omega⟩
  rcases List.mem_or_eq_of_mem_set hp with g | g
  · exact h.sent p g
  · subst g
    obtain ⟨h1, a, ha, h2, h3, h4, h5⟩ := h.sent _ (List.getElem_mem hi)
    refine ⟨h1, a, ha, h2, h3, by show a.m = (N.ps[i].bs.set j X).length; rw [List.length_set]; exact h4, ?_⟩
    show unl (N.ps[i].bs.set j X) a.L (N.ps[i].bs.set j X).length ≤ 1
    rw [List.length_set]
    rw [hsp] at h5
    have := unl_set N.ps[i].bs a.L j X N.ps[i].bs.length
    simp only [Bool.false_eq_true, if_false] at h5
    split at this <;> omega

theorem putAt_mem {κ : Type} {v : Value} {p : κ × Value} : ∀ {l : List (κ × Value)} {i : Nat}, p ∈ putAt l i v → p ∈ l ∨ p.2 = v
  | [], i, h => by simp [putAt] at h
  | q :: l, 0, h => by
    simp only [putAt, List.mem_cons] at h
    rcases h with rfl | h
    · exact .inr rfl
    · exact .inl (by simp [h])
  | q :: l, i + 1, h => by
    simp only [putAt, List.mem_cons] at h
    rcases h with rfl | h
    · exact .inl (by simp)
    · rcases putAt_mem h with g | g
      · exact .inl (by simp [g])
      · exact .inr g

theorem NT.cutsN {room k : Nat} {N : NetV} {S : List ActV} (h : NT room k N S) (x y : Int) (cut : Bool) : NT room (k + 1) (cutN N x y cut) S := by
  refine ⟨h.nodes, h.rm, h.low, by have := h.high; show N.dropped ≤ _; omega, h.len, ?_, h.sent, by have := h.few; omega⟩
  intro p hp
  have hp' : p ∈ (if cut then aput N.cuts (min x y, max x y) (iv 1) else adel N.cuts (min x y, max x y)) := hp
  cases cut with
  | true =>
    simp only [if_true] at hp'
    unfold aput at hp'
    split at hp'
    · rcases putAt_mem hp' with g | g
      · exact h.cuts p g
      · exact g
    · rcases List.mem_append.1 hp' with g | g
      · exact h.cuts p g
      · have : p = ((min x y, max x y), iv 1) := by simpa using g
        rw [this]
  | false =>
    simp only [Bool.false_eq_true, if_false] at hp'
    unfold adel at hp'
    split at hp'
    · exact h.cuts p (List.mem_of_mem_eraseIdx hp')
    · exact h.cuts p hp'

theorem hasB_nat {N : NetV} {i : Int} (h : hasB N i = true) : ∃ j : Nat, i = j ∧ j < N.ps.length := by
  unfold hasB at h
  simp at h
  exact ⟨i.toNat, by omega, by omega⟩

section
variable {W w : World} {R : List HP} {post : Ending → World → Prop} {b room k : Nat} {N : NetV} {S : List ActV}

theorem nt_send_c {x : ActV} {ok : Bool} (ho : (linkB N.nodes x.x x.y && decide ((N.ps.length : Int) < N.room)) = ok) (st : St W w (NetA b N :: R)) (h : NT room k N S) (hr : room ≤ 255) (hk : k ≤ 60) (rx : RdS W 1 x.a x.m x.c (bvs x.L)) (h1 : x.m ≤ 100)
    (K : ∀ w' N', St W w' (NetA b N' :: R) → NT room (k + 1) N' (if ok then S ++ [x] else S) → post (.returned (.bool ok)) w') :
    Calls Try.prog 8 #[.pointer (some ⟨b, 0, none⟩), .int .i64 x.x, .int .i64 x.y, .slice x.a x.m x.c] w post := by
  refine send_c st (rx.rds _) (by omega) (by rw [h.rm]; omega) ⟨h.low, by have := h.high; omega⟩ fun w' a' c' y n => ?_
  rw [ho]
  by_cases hl : linkB N.nodes x.x x.y = true
  · rw [hl, Bool.true_and] at ho
    refine K w' _ (y hl) ?_
    cases ok with
    | true => simpa using h.sends h1 (bvs_len rx) (of_decide_eq_true ho)
    | false => simpa using h.full (of_decide_eq_false ho)
  · have hf : linkB N.nodes x.x x.y = false := by simpa using hl
    rw [hf, Bool.false_and] at ho
    subst ho
    exact K w' _ (n hf) (by simpa using h.more)

theorem nt_take_cut {i : Nat} (st : St W w (NetA b N :: R)) (h : NT room k N S) (hr : room ≤ 255) (hi : i < N.ps.length) (hc : cutB N N.ps[i].f N.ps[i].t = true)
    (K : ∀ w' N', St W w' (NetA b N' :: R) → NT room (k + 1) N' S → post (.returned (.tuple #[.int .i64 0, .slice none 0 0, .int .i64 13])) w') :
    Calls Try.prog 11 #[.pointer (some ⟨b, 0, none⟩), .int .i64 i] w post := by
  refine take_c st hi h.cuts (by have := h.len; omega) fun w' s' => ?_
  rw [if_pos hc]
  exact K w' _ ((St.pick 1 s').drop) (h.drops i)

theorem nt_take_c {i : Nat} {p : PV} (st : St W w (NetA b N :: R)) (h : NT room k N S) (hr : room ≤ 255) (hi : i < N.ps.length) (hp : N.ps[i] = p) (hc : cutB N p.f p.t = false)
    (K : ∀ w' N', St W w' (NetA b N' :: OwnS 1 p.a p.n p.c (bvs p.bs) :: R) → NT room (k + 1) N' S → Sent S p → cutB N' p.f p.t = false → post (.returned (.tuple #[.int .i64 p.t, .slice p.a p.n p.c, .int .i64 0])) w') :
    Calls Try.prog 11 #[.pointer (some ⟨b, 0, none⟩), .int .i64 i] w post := by
  subst hp
  refine take_c st hi h.cuts (by have := h.len; omega) fun w' s' => ?_
  rw [if_neg (by rw [hc]; simp)]
  exact K w' _ s' (h.drops i) (h.sent _ (List.getElem_mem hi)) hc

theorem Sent.among {p : PV} (h : Sent S p) : amongB S p.f p.t p.bs = true := by
  obtain ⟨_, a, ha, h1, h2, h3, h4⟩ := h
  unfold amongB
  rw [List.any_eq_true]
  refine ⟨a, ha, ?_⟩
  have : unl p.bs a.L p.bs.length ≤ 1 := by split at h4 <;> omega
  simp [h1, h2, h3, this]

theorem nt_lose_c {i : Int} (st : St W w (NetA b N :: R)) (h : NT room k N S) (hr : room ≤ 255)
    (K : ∀ w' N' e, St W w' (NetA b N' :: R) → NT room (k + 1) N' S → post (.returned (.int .i64 e)) w') : Calls Try.prog 21 #[.pointer (some ⟨b, 0, none⟩), .int .i64 i] w post := by
  by_cases hh : hasB N i = true
  · obtain ⟨j, rfl, hj⟩ := hasB_nat hh
    exact lose_c st hj (by have := h.len; omega) fun w' s' => K w' _ _ s' (h.drops j)
  · exact lose_no st (by simpa using hh) (K w N _ st h.more)

theorem nt_copy_c {i : Int} (st : St W w (NetA b N :: R)) (h : NT room k N S) (hr : room ≤ 255) (hk : k ≤ 60)
    (K : ∀ w' N' e, St W w' (NetA b N' :: R) → NT room (k + 1) N' S → post (.returned (.int .i64 e)) w') : Calls Try.prog 9 #[.pointer (some ⟨b, 0, none⟩), .int .i64 i] w post := by
  by_cases hh : hasB N i = true
  · obtain ⟨j, rfl, hj⟩ := hasB_nat hh
    exact copy_c st hj (fun p hp => by have := (h.sent p hp).1; omega) (by rw [h.rm]; omega) ⟨h.low, by have := h.high; omega⟩ fun w' a' c' s' => K w' _ _ s' (h.copies hj a' c')
  · exact copy_no st (by simpa using hh) (K w N _ st h.more)

theorem nt_turn_c {i j z : Int} (st : St W w (NetA b N :: R)) (h : NT room k N S)
    (K : ∀ w' N' e, St W w' (NetA b N' :: R) → NT room (k + 1) N' S → post (.returned (.int .i64 e)) w') : Calls Try.prog 22 #[.pointer (some ⟨b, 0, none⟩), .int .i64 i, .int .i64 j, .int .u8 z] w post := by
  by_cases hh : hasB N i = true
  · obtain ⟨i, rfl, hi⟩ := hasB_nat hh
    by_cases he : turnE N.ps[i] j z = 0
    · have hsp : N.ps[i].sp = false := by
        unfold turnE at he
        split at he
        · cases he
        · rename_i g; simpa using g
      unfold turnE at he
      rw [hsp] at he
      simp only [Bool.false_eq_true, if_false] at he
      split at he
      · cases he
      · split at he
        · cases he
        · rename_i h1 h2
          obtain ⟨m, rfl⟩ : ∃ m : Nat, j = m := ⟨j.toNat, by omega⟩
          exact turn_c st hi hsp (by omega) h2 fun w' s' => K w' _ _ s' (h.turns hi hsp m _)
    · exact turn_same st hi he (K w N _ st h.more)
  · exact turn_no st (by simpa using hh) (K w N _ st h.more)

theorem nt_cut_c {x y : Int} {cut : Bool} (st : St W w (NetA b N :: R)) (h : NT room k N S)
    (K : ∀ w' N' e, St W w' (NetA b N' :: R) → NT room (k + 1) N' S → post (.returned (.int .i64 e)) w') : Calls Try.prog 23 #[.pointer (some ⟨b, 0, none⟩), .int .i64 x, .int .i64 y, .bool cut] w post := by
  refine cut_c st fun w' s' => ?_
  by_cases hl : linkB N.nodes x y = true
  · rw [if_pos hl] at s' ⊢
    exact K w' _ _ s' (h.cutsN x y cut)
  · rw [if_neg hl] at s' ⊢
    exact K w' _ _ s' h.more

end

end Go.Proofs.Ytnibgchgcggfbab
