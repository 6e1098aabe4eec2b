/- rota: Next, in one contract; the statements' example. -/
import Derived.Test.YtnibgchgcggfbadRotaB
namespace Go.Proofs.Ytnibgchgcggfbad
open Go.RowKit Go.Qd

def nP (L zs : List Int) : Int := (if L = [] then rotaL zs else L).headD 0
def nL (L zs : List Int) : List Int := (if L = [] then rotaL zs else L).tail
def nC (cyc : Int) (L : List Int) : Int := if L = [] then cyc + 1 else cyc

section
variable {W w : World} {R : List HP} {post : Ending → World → Prop} {b : Nat} {full cyc : Int} {L : List Int}

theorem next_c {ak : Option Addr} {nk ck : Nat} {zs : List Int} (st : St W w (RotaA b full cyc L :: R)) (rk : Rds W R 1 ak nk ck (ivs zs)) (hk : zs ≠ []) (hk2 : nk ≤ 100000) (hf : 1 ≤ full ∧ full ≤ 64) (hc : 0 ≤ cyc ∧ cyc ≤ 1000000)
    (K : ∀ w', St W w' (RotaA b full (nC cyc L) (nL L zs) :: R) → post (.returned (.tuple #[.int .i64 (nP L zs), .bool (nC cyc L % full == 0), .bool true])) w') :
    Calls Try.prog 8 #[.pointer (some ⟨b, 0, none⟩), .slice ak nk ck] w post := by
  cases L with
  | nil =>
    obtain ⟨p, L', hL⟩ : ∃ p L', rotaL zs = p :: L' := by
      cases h : rotaL zs with
      | nil => exact absurd h (rotaL_ne hk)
      | cons p L' => exact ⟨p, L', rfl⟩
    have e1 : nP [] zs = p := by simp [nP, hL]
    have e2 : nL [] zs = L' := by simp [nL, hL]
    have e3 : nC cyc [] = cyc + 1 := by simp [nC]
    rw [e1, e2, e3] at K
    exact next_new st rk hk hk2 hL hf hc K
  | cons p L' =>
    have e1 : nP (p :: L') zs = p := by simp [nP]
    have e2 : nL (p :: L') zs = L' := by simp [nL]
    have e3 : nC cyc (p :: L') = cyc := by simp [nC]
    rw [e1, e2, e3] at K
    exact next_take st hf hc K

end

end Go.Proofs.Ytnibgchgcggfbad
