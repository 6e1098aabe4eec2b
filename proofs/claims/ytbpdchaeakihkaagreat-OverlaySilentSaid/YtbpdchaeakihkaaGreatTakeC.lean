/- The overlay: others. -/
import Derived.Test.YtbpdchaeakihkaaGreatTakeB
namespace Go.Proofs.YtbpdchaeakihkaaGreat
open Go.RowKit Go.Qd

def othersL (O : OV) (but : List Int) : List Int := O.V.a.filter fun p => !memB but p

section
variable {W w : World} {R : List HP} {post : Ending → World → Prop} {b d : Nat} {O : OV}

theorem pred97 {B : Nat} {ba : Option Addr} {bn bc : Nat} {but : List Int} (hb : Rds W R 1 ba bn bc (ivs but)) :
    PredG W (row B 0 [.slice ba bn bc] :: R) 97 #[.pointer (some ⟨B, 0, none⟩)] (fun p => memB but p) := by
  intro X x w1 p1 s1 K
  have HK := hid K; clear K
  have c0 := row1c (St.pick 1 s1)
  have rd := hb _ (s1.dropN 2)
  go_enter Tryz.func97, Tryz.ntmps97
  go_wp2_with (go_at_call 98; refine contains_c rd ?_)
  exact HK.out _ s1

set_option maxRecDepth 100000 in
set_option maxHeartbeats 4000000 in
theorem others_c {ba : Option Addr} {bn bc : Nat} {but : List Int} (st : St W w (OvA b d O :: R)) (h : OOK O) (hb : Rds W R 1 ba bn bc (ivs but))
    (K : ∀ ao n c w', St W w' (OwnS 1 ao n c (ivs (othersL O but)) :: OvA b d O :: R) → post (.returned (.slice ao n c)) w') : Calls Tryz.prog 52 #[.pointer (some ⟨b, 0, none⟩), .slice ba bn bc] w post := by
  have HK := hid K; clear K
  have HN := hid (show O.V.a.length ≤ 4096 from Nat.le_trans h.v.na4 (by decide))
  have HB := hid hb
  have s0 := st.alloc #[.slice ba bn bc] 24
  obtain ⟨v, s1⟩ := OvA.open (St.pick 1 s0)
  have g0 := row1c s1
  clear h hb
  go_enter Tryz.func52, Tryz.ntmps52
  go_wp2_with (first
    | (go_at_call 16; refine active_c (St.pick 6 s1) HN.out ?_; rintro a5 c5 w5 s5)
    | (go_at_call 96; refine delF97_c (R := row w.heap.size 0 [.slice ba bn bc] :: ViewsA v O.V :: row b 0 [.pointer (some ⟨v, 0, none⟩)] :: NewsA b 1 O.L O.C :: row b 3 (ivs O.cfg) :: row b 23 [.pointer (some ⟨d, 0, none⟩)] :: row b 24 (ivs O.heard) :: row b 36 [.int .i64 O.ticks, .int .i64 O.asked, .int .i64 O.since] :: DiceA d O.D :: R) (s5.perm [0, 8]) HN.out (pred97 (HB.out.cons.cons.cons.cons.cons.cons.cons.cons)) ?_; rintro n6 w6 s6))
  exact HK.out _ _ _ _ (St.pick 1 (St.drop (St.pick 2 (OvA.close (O := O) (v := v) (s6.perm [3, 3, 3, 3, 3, 3, 2, 2])))))

end

end Go.Proofs.YtbpdchaeakihkaaGreat
