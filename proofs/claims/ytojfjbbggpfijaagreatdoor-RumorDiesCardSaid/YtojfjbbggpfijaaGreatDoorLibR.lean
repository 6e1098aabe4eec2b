/- LibR: several texts, joined. Association lists: what a key has behind a put and a delete; maps whose keys are texts; 'v, ok := m[k]'. -/
import Derived.Test.YtojfjbbggpfijaaGreatDoorLib
import Derived.Laws.StructEq
import Derived.Lib.Strings
import Derived.Lib.ConvBytes
import Derived.WalkKit
import Derived.IntWalk
namespace Go.Qd
open Go.RowKit

section
variable {κ : Type} [DecidableEq κ]
/-- What a key has. -/
def ag (l : List (κ × Value)) (a : κ) : Option Value := (lookAt a l 0).map (·.2)

theorem lookAt_cons (p : κ × Value) (l : List (κ × Value)) (a : κ) (i : Nat) : lookAt a (p :: l) i = if a = p.1 then some (i, p.2) else lookAt a l (i + 1) := rfl
theorem lookAt_shift {a : κ} : ∀ (l : List (κ × Value)) (i : Nat), lookAt a l (i + 1) = (lookAt a l i).map fun p => (p.1 + 1, p.2)
  | [], i => rfl
  | p :: l, i => by
    unfold lookAt
    split
    · rfl
    · exact lookAt_shift l (i + 1)
theorem ag_cons (p : κ × Value) (l : List (κ × Value)) (a : κ) : ag (p :: l) a = if a = p.1 then some p.2 else ag l a := by
  unfold ag
  rw [lookAt_cons]
  split
  · rfl
  · rw [lookAt_shift]; cases lookAt a l 0 <;> rfl
theorem aput_cons (p : κ × Value) (l : List (κ × Value)) (a : κ) (v : Value) : aput (p :: l) a v = if a = p.1 then (p.1, v) :: l else p :: aput l a v := by
  unfold aput
  rw [lookAt_cons]
  by_cases h : a = p.1
  · rw [if_pos h, if_pos h]; rfl
  · rw [if_neg h, if_neg h, lookAt_shift]
    cases lookAt a l 0 <;> rfl
theorem adel_cons (p : κ × Value) (l : List (κ × Value)) (a : κ) : adel (p :: l) a = if a = p.1 then l else p :: adel l a := by
  unfold adel
  rw [lookAt_cons]
  by_cases h : a = p.1
  · rw [if_pos h, if_pos h]; rfl
  · rw [if_neg h, if_neg h, lookAt_shift]
    cases lookAt a l 0 <;> rfl
theorem ag_aput (l : List (κ × Value)) (a b : κ) (v : Value) : ag (aput l a v) b = if b = a then some v else ag l b := by
  induction l with
  | nil => show ag [(a, v)] b = _; rw [ag_cons]
  | cons p l ih =>
    rw [aput_cons]
    by_cases h : a = p.1
    · rw [if_pos h, ag_cons, ag_cons, ← h]
      split <;> rfl
    · rw [if_neg h, ag_cons, ag_cons, ih]
      by_cases hb : b = p.1
      · have : ¬ b = a := fun e => h (e.symm.trans hb)
        rw [if_pos hb, if_neg this, if_pos hb]
      · rw [if_neg hb, if_neg hb]
theorem ag_none {l : List (κ × Value)} {a : κ} : ag l a = none ↔ a ∉ l.map (·.1) := by
  induction l with
  | nil => simp [ag, lookAt]
  | cons p l ih =>
    rw [ag_cons]
    by_cases h : a = p.1
    · simp [h]
    · rw [if_neg h, ih]; simp [h]
theorem ag_adel {l : List (κ × Value)} (hn : (l.map (·.1)).Nodup) (a b : κ) : ag (adel l a) b = if b = a then none else ag l b := by
  induction l with
  | nil => show ag [] b = _; simp [ag, lookAt]
  | cons p l ih =>
    simp only [List.map_cons, List.nodup_cons] at hn
    rw [adel_cons]
    by_cases h : a = p.1
    · rw [if_pos h, ag_cons]
      by_cases hb : b = a
      · rw [if_pos hb, hb, h]; exact ag_none.2 hn.1
      · rw [if_neg hb, if_neg (fun e => hb (e.trans h.symm))]
    · rw [if_neg h, ag_cons, ag_cons, ih hn.2]
      by_cases hb : b = p.1
      · have : ¬ b = a := fun e => h (e.symm.trans hb)
        rw [if_pos hb, if_neg this, if_pos hb]
      · rw [if_neg hb, if_neg hb]
theorem mem_aput_keys {l : List (κ × Value)} {a b : κ} {v : Value} (h : b ∈ (aput l a v).map (·.1)) : b = a ∨ b ∈ l.map (·.1) := by
  by_cases e : b = a
  · exact .inl e
  · refine .inr ?_
    have h1 : ¬ ag (aput l a v) b = none := fun g => ag_none.1 g h
    rw [ag_aput, if_neg e] at h1
    exact Classical.byContradiction fun g => h1 (ag_none.2 g)
theorem nodup_aput {l : List (κ × Value)} (hn : (l.map (·.1)).Nodup) (a : κ) (v : Value) : ((aput l a v).map (·.1)).Nodup := by
  induction l with
  | nil => show ([(a, v)].map (·.1)).Nodup; simp
  | cons p l ih =>
    have hn' := hn
    simp only [List.map_cons, List.nodup_cons] at hn
    rw [aput_cons]
    split
    · exact hn'
    · rename_i h
      simp only [List.map_cons, List.nodup_cons]
      refine ⟨fun g => ?_, ih hn.2⟩
      rcases mem_aput_keys g with g | g
      · exact h g.symm
      · exact hn.1 g
theorem nodup_adel {l : List (κ × Value)} (hn : (l.map (·.1)).Nodup) (a : κ) : ((adel l a).map (·.1)).Nodup := by
  induction l with
  | nil => exact hn
  | cons p l ih =>
    simp only [List.map_cons, List.nodup_cons] at hn
    rw [adel_cons]
    split
    · exact hn.2
    · simp only [List.map_cons, List.nodup_cons]
      refine ⟨fun g => hn.1 ?_, ih hn.2⟩
      have h1 : ¬ ag (adel l a) p.1 = none := fun e => ag_none.1 e g
      rw [ag_adel hn.2] at h1
      split at h1
      · exact absurd rfl h1
      · exact Classical.byContradiction fun g' => h1 (ag_none.2 g')
end

theorem byt_beq (a b : ByteArray) : (a == b) = decide (a = b) := by
  rw [beq_toListBytes, Lib.toList_data, Lib.toList_data]
  by_cases h : a = b
  · simp [h]
  · have : ¬ a.data.toList = b.data.toList := fun e => h (by cases a; cases b; simp at e; simp [e])
    rw [decide_eq_false h]; exact beq_eq_false_iff_ne.2 this

/-- A key type of texts. -/
theorem strKey {P : Program} {K : TypeId} (hu : P.underlying K = some .string) : KeyT P K Value.string := by
  refine ⟨fun e a w => ?_, fun a l es w h => ?_, fun a => by show (a == a) = true; rw [byt_beq]; simp⟩
  · unfold Instr.checkKey
    simp [run_underlying hu]
  have hf : ∀ (l : List (ByteArray × Value)) (es : List MapEntry) (i : Nat), es.map (fun e => (e.key, e.val)) = l.map (fun p => (Value.string p.1, p.2)) → Instr.findNow .string (.string a) es i = some (lookAt a l i) := by
    intro l
    induction l with
    | nil => intro es i h; have : es = [] := by simpa using h
             subst this; rfl
    | cons p l ih =>
      intro es i h
      cases es with
      | nil => simp at h
      | cons e es =>
        simp only [List.map_cons, List.cons.injEq, Prod.mk.injEq] at h
        obtain ⟨⟨h1, h2⟩, h3⟩ := h
        unfold Instr.findNow
        rw [h1, lookAt_cons]
        by_cases hp : a = p.1
        · subst hp; simp only [Instr.sameNow, byt_beq, h2]; simp
        · simp only [Instr.sameNow, byt_beq, decide_eq_false hp]; simp [hp, ih es (i + 1) h3]
  simp [Instr.findKey, run_underlying hu, hf l es 0 h]

section
variable {P : Program} {W w : World} {R : List HP} {K : TypeId} {κ : Type} [DecidableEq κ] {enc : κ → Value} {m : Nat} {l : List (κ × Value)} {t e : TypeId}
/-- 'v, ok := m[k]' of an owned map. -/
theorem run_lookup_ok (kt : KeyT P K enc) (hu : P.underlying t = some (.map K e)) {z : Value} (hz : ∀ w, (zeroValue e).run P w = .ok z w) (s : St W w (MapA enc m l :: R)) (a : κ) :
    (Instr.lookup t (.map (some m)) (enc a) true).run P w = .ok (.tuple #[(ag l a).getD z, .bool (ag l a).isSome]) w := by
  obtain ⟨es, clock, h, hh, _⟩ := MapA.open s
  have hf := kt.find a l es.toList w h
  have hc := kt.check es.isEmpty a w
  have hg : (getObj m).run P w = .ok (.map es clock) w := by simp [getObj, Sem.run, hh]
  simp only [Instr.lookup]
  simp [run_underlying hu, hg, hc, hf, ag]
  cases lookAt a l 0 with
  | none => simp [hz]
  | some p => simp
end

end Go.Qd

/- '[]byte(s)': the bytes of a text, in memory of the call's own. -/
namespace Go.Qd
open Go.RowKit

def byC (l : List UInt8) : List Value := l.map fun b => Value.int .u8 b.toNat
theorem byC_len (l : List UInt8) : (byC l).length = l.length := by simp [byC]
theorem byC_one (l : List UInt8) : ∀ u ∈ byC l, u.oneCell' = true := by
  intro u hu; obtain ⟨b, _, rfl⟩ := List.mem_map.1 hu; rfl
theorem byC_app (a b : List UInt8) : byC (a ++ b) = byC a ++ byC b := by simp [byC]

theorem grown_bytesW (w : World) (e : TypeId) (s : ByteArray) : w.grownBy (Lib.bytesWorld w e s) none :=
  ⟨rfl, rfl, rfl, by rw [Lib.bytesWorld_size]; omega, fun j hj _ => Lib.bytesWorld_at_old w e s j hj⟩

theorem St.strBytes {W w : World} {R : List HP} (s : St W w R) (e : TypeId) (x : ByteArray) (hx : x.size ≤ maxLen) :
    St W (Lib.bytesWorld w e x) (OwnS 1 (some ⟨w.heap.size, 0, none⟩) x.size (grownCap w x.size 0 e) (byC x.data.toList) :: R) := by
  have hg := grown_bytesW w e x
  have hb : Below W.heap.size W (Lib.bytesWorld w e x) := s.1.grown hg s.1.size (by simp)
  have hge := grownCap_ge w x.size 0 e
  have hcells : (Lib.bytesCells w e x).toList = byC x.data.toList ++ List.replicate (grownCap w x.size 0 e - x.size) (.int .u8 0) := by
    simp [Lib.bytesCells, byC]
  have hlen : (Lib.bytesCells w e x).size = grownCap w x.size 0 e := by
    simp [Lib.bytesCells]; omega
  have s1 : St W (Lib.bytesWorld w e x) (row w.heap.size 0 (Lib.bytesCells w e x).toList :: R) := by
    refine s.grow hb (fun b hlt => hg.block b hlt (by simp)) (h1' := rowH w.heap.size 0 .cell (Lib.bytesCells w e x).toList) rfl (fun b o r hr => ?_) (fun b o hn => ?_)
    · obtain ⟨rfl, ho, v, hv, rfl⟩ := rowH_some hr
      have := s.1.size
      have ho2 : o < (Lib.bytesCells w e x).size := by
        have h9 := (List.getElem?_eq_some_iff.1 hv).1
        simp at h9; omega
      refine ⟨⟨?_, ?_⟩, fun _ => by omega⟩
      · simp [World.cell?, Lib.bytesWorld_at_new]; simpa using hv
      · simp [World.frozen?, Lib.bytesWorld_at_new]; omega
    · obtain ⟨r, hr⟩ := Option.ne_none_iff_exists'.1 hn
      obtain ⟨rfl, _⟩ := rowH_some hr
      exact Nat.le_refl _
  rw [hcells] at s1
  exact OwnS.close (sp := List.replicate (grownCap w x.size 0 e - x.size) (.int .u8 0)) ⟨by rw [byC_len, Nat.mul_one]; simp, by simp, hge, grownCap_le_maxLen w x.size 0 e hx, by simp, fun _ => ⟨_, _, rfl⟩, byC_one _⟩ s1

end Go.Qd

/- Xor and and of numbers, in the walk's spelling. -/
namespace Go.Qd

theorem xor_nat {k : IntKind} {n : Nat} (hk : k.bits = n) (hw : ∀ m : Nat, m < 2 ^ n → k.wrap (m : Int) = m) {a b : Nat} (ha : a < 2 ^ n) (hb : b < 2 ^ n) : bits .xor k (a : Int) (b : Int) = ((a ^^^ b : Nat) : Int) := by
  have h : a ^^^ b < 2 ^ n := Nat.xor_lt_two_pow ha hb
  unfold bits
  simp only [hk, BitVec.ofInt_natCast, BitVec.toNat_xor, BitVec.toNat_ofNat, Nat.mod_eq_of_lt ha, Nat.mod_eq_of_lt hb]
  exact hw _ h
theorem and_nat {k : IntKind} {n : Nat} (hk : k.bits = n) (hw : ∀ m : Nat, m < 2 ^ n → k.wrap (m : Int) = m) {a b : Nat} (ha : a < 2 ^ n) (hb : b < 2 ^ n) : bits .and k (a : Int) (b : Int) = ((a &&& b : Nat) : Int) := by
  have h : a &&& b < 2 ^ n := Nat.lt_of_le_of_lt Nat.and_le_left ha
  unfold bits
  simp only [hk, BitVec.ofInt_natCast, BitVec.toNat_and, BitVec.toNat_ofNat, Nat.mod_eq_of_lt ha, Nat.mod_eq_of_lt hb]
  exact hw _ h
theorem xor64 {a b : Nat} (ha : a < 18446744073709551616) (hb : b < 18446744073709551616) : bits .xor .u64 (a : Int) (b : Int) = ((a ^^^ b : Nat) : Int) :=
  xor_nat (n := 64) rfl (fun m hm => IntWalk.u64_in _ (by omega)) (by omega) (by omega)
theorem xor32 {a b : Nat} (ha : a < 4294967296) (hb : b < 4294967296) : bits .xor .u32 (a : Int) (b : Int) = ((a ^^^ b : Nat) : Int) :=
  xor_nat (n := 32) rfl (fun m hm => IntWalk.u32_in _ (by omega)) (by omega) (by omega)
theorem xor8 {a b : Nat} (ha : a < 256) (hb : b < 256) : bits .xor .u8 (a : Int) (b : Int) = ((a ^^^ b : Nat) : Int) :=
  xor_nat (n := 8) rfl (fun m hm => IntWalk.u8_in _ (by omega)) (by omega) (by omega)
theorem and32 {a b : Nat} (ha : a < 4294967296) (hb : b < 4294967296) : bits .and .u32 (a : Int) (b : Int) = ((a &&& b : Nat) : Int) :=
  and_nat (n := 32) rfl (fun m hm => IntWalk.u32_in _ (by omega)) (by omega) (by omega)
theorem and63 {a b : Nat} (ha : a < 9223372036854775808) (hb : b < 9223372036854775808) : bits .and .i64 (a : Int) (b : Int) = ((a &&& b : Nat) : Int) := by
  have h : a &&& b < 9223372036854775808 := Nat.lt_of_le_of_lt Nat.and_le_left ha
  unfold bits
  simp only [show IntKind.i64.bits = 64 from rfl, BitVec.ofInt_natCast, BitVec.toNat_and, BitVec.toNat_ofNat, Nat.mod_eq_of_lt (show a < 2 ^ 64 by omega), Nat.mod_eq_of_lt (show b < 2 ^ 64 by omega)]
  exact IntWalk.i64_in _ (by omega)
end Go.Qd
