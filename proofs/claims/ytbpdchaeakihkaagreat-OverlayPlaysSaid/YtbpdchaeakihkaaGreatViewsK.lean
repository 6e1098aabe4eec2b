/- views: Known. -/
import Derived.Test.YtbpdchaeakihkaaGreatTv
import Derived.Test.YtbpdchaeakihkaaGreatConcat
import Derived.Test.YtbpdchaeakihkaaGreatSortV
import Derived.StillTailTactics
namespace Go.Proofs.YtbpdchaeakihkaaGreat
open Go.RowKit Go.Qd

/-- Two sets, read. -/
theorem set_rd {W w : World} {R : List HP} {ao : Option Addr} {n c : Nat} {cs : List Value} (k : Nat) {l : List HP} (s : St W w l) (h : pickL k l = OwnS 1 ao n c cs :: R) : RdS w 1 ao n c cs := by
  have := s.pick k; rw [h] at this; exact OwnS.rd this

set_option maxRecDepth 100000 in
theorem known_c {W w : World} {R : List HP} {post : Ending → World → Prop} {b : Nat} {V : VV} (st : St W w (ViewsA b V :: R)) (ha : V.a.length ≤ 100) (hp : V.p.length ≤ 100)
    (K : ∀ ao c w', St W w' (OwnS 1 ao (V.a.length + V.p.length) c (ivs (sortL (V.a ++ V.p))) :: ViewsA b V :: R) → post (.returned (.slice ao (V.a.length + V.p.length) c)) w') : Calls Tryz.prog 30 #[.pointer (some ⟨b, 0, none⟩)] w post := by
  have HK := hid K; clear K
  have s0 := ViewsA.open st
  obtain ⟨a1, n1, c1, s1⟩ := SetA.open (St.pick 1 s0)
  obtain ⟨a2, n2, c2, s2⟩ := SetA.open (St.pick 3 s1)
  have s3 : St W w (row b 1 [.slice a1 n1 c1, iv V.am] :: OwnS 1 a1 n1 c1 (ivs V.a) :: row b 3 [.slice a2 n2 c2, iv V.pm] :: OwnS 1 a2 n2 c2 (ivs V.p) :: pt b 0 (iv V.self) :: R) := s2.perm [2, 2, 0, 0, 0]
  have h1 := (row2 s3).1
  have h2 := (row2 (St.pick 2 s3)).1
  have l1 := ivs_len (OwnS.rd (St.pick 1 s3))
  have l2 := ivs_len (OwnS.rd (St.pick 3 s3))
  rw [l1, l2] at HK
  rw [l1] at ha
  rw [l2] at hp
  clear l1 l2 st s0 s1 s2
  have hne : (⟨b, 1, none⟩ : Addr) ≠ ⟨b, 3, none⟩ := by simp
  go_enter Tryz.func30, Tryz.ntmps30
  go_wp2_with fail
  go_still_tail 10, (by kernel_rfl)
  change wpList _ _ _ _ _ w.drew
  have s4 := s3.drew
  generalize w.drew = w4 at s4 ⊢
  have s5 := s4.alloc #[.slice a1 n1 c1, .slice a2 n2 c2] 24
  clear h1 h2 s3
  go_wp2_with (first
    | (go_at_call 69; refine concat2_c s5 (fun w s => OwnS.rd (St.pick 1 s)) (fun w s => OwnS.rd (St.pick 3 s)) (by omega) (by unfold maxLen; omega) ?_; rintro a6 c6 w6 s6; rw [← ivs_append] at s6)
    | (go_at_call 68; refine values_c s6 ?_; rintro Bs w7 s7; have hb7 := s7.cell)
    | (go_at_call 67; refine sorted_c s7 hb7 (OwnS.rd (St.pick 1 s7)) (by omega) ?_; rintro a8 c8 w8 s8))
  have s9 := SetA.close (s8.perm [4, 4])
  have sA := SetA.close (s9.perm [5, 5])
  have sB := ViewsA.close (sA.perm [6, 1, 0])
  exact HK.out _ _ _ (((sB.perm [1, 0]).perm [2, 2, 2]).dropN 3)

end Go.Proofs.YtbpdchaeakihkaaGreat
