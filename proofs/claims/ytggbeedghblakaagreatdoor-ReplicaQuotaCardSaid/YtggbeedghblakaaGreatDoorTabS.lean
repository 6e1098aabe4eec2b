/- Tables of entries: Rank, Scan. -/
import Derived.Test.YtggbeedghblakaaGreatDoorTabsB
import Derived.Test.YtggbeedghblakaaGreatDoorLib
namespace Go.Proofs.YtggbeedghblakaaGreatDoor
open Go.RowKit Go.Qd

/-- So many pairs from a key on. -/
def scanL (l : List KE) (k : ByteArray) (n : Int) : List KE := (l.drop (rankK kLt Prod.fst l k)).take n.toNat

section
attribute [local go_sem ↓] execOp_ldAny
variable {W w : World} {R : List HP} {post : Ending → World → Prop} {b : Nat} {room : Int} {l : List KE} {k : ByteArray} {ao : Option Addr} {n c : Nat}

set_option maxRecDepth 100000 in
theorem find2_c (hs : TSrt l) (hn : n ≤ 4096) (st : St W w (row b 0 [.int .i64 room, .slice ao n c] :: OwnS 10 ao n c (tabC l) :: R))
    (K : ∀ w', St W w' (row b 0 [.int .i64 room, .slice ao n c] :: OwnS 10 ao n c (tabC l) :: R) → post (.returned (.tuple #[.int .i64 (rankK kLt Prod.fst l k : Nat), .bool (thas l k)])) w') :
    Calls Tryz.prog 127 #[.pointer (some ⟨b, 0, none⟩), .string k] w post := by
  have HK := hid K; clear K
  obtain ⟨h0, h1, _⟩ := rowTwo st
  rw [Nat.zero_add] at h1
  have hr : Rds W (row b 0 [.int .i64 room, .slice ao n c] :: OwnS 10 ao n c (tabC l) :: R) 10 ao n c (tabC l) := fun w' s' => OwnS.rd (St.pick 1 s')
  have HR := hid hr
  have h1' := run_ldP (t := 166) (by kernel_rfl) h1
  clear hr
  go_enter Tryz.func127, Tryz.ntmps127
  go_wp2_with (go_at_call 182; refine bsfE_c HR.out hs hn st ?_; rintro w6 s6)
  exact HK.out _ s6

set_option maxRecDepth 100000 in
theorem rank2_c (hs : TSrt l) (hn : n ≤ 4096) (st : St W w (row b 0 [.int .i64 room, .slice ao n c] :: OwnS 10 ao n c (tabC l) :: R))
    (K : ∀ w', St W w' (row b 0 [.int .i64 room, .slice ao n c] :: OwnS 10 ao n c (tabC l) :: R) → post (.returned (.int .i64 (rankK kLt Prod.fst l k : Nat))) w') :
    Calls Tryz.prog 138 #[.pointer (some ⟨b, 0, none⟩), .string k] w post := by
  have HK := hid K; clear K
  obtain ⟨r, hr⟩ : ∃ r, rankK kLt Prod.fst l k = r := ⟨_, rfl⟩
  have HR := hid hr
  rw [hr] at HK
  clear hr
  go_enter Tryz.func138, Tryz.ntmps138
  go_wp2_with (go_at_call 127; refine find2_c hs hn st ?_; rintro w6 s6; rw [HR.out])
  exact HK.out _ s6

set_option maxRecDepth 100000 in
set_option maxHeartbeats 4000000 in
theorem scanE_c {m : Int} (hs : TSrt l) (hn : l.length ≤ 4096) (st : St W w (TabE b 0 room l :: R))
    (K : ∀ a n' c' w', n' = (scanL l k m).length → St W w' (OwnS 10 a n' c' (tabC (scanL l k m)) :: TabE b 0 room l :: R) → post (.returned (.slice a n' c')) w') :
    Calls Tryz.prog 88 #[.pointer (some ⟨b, 0, none⟩), .string k, .int .i64 m] w post := by
  have HK := hid K; clear K
  obtain ⟨ao, n, c, s⟩ := TabE.open st
  have hl : l.length = n := tabC_ln (OwnS.rd (St.pick 1 s))
  have hle := (OwnS.rd (St.pick 1 s)).le
  have hmax := (OwnS.rd (St.pick 1 s)).max
  obtain ⟨r, hr⟩ : ∃ r, rankK kLt Prod.fst l k = r := ⟨_, rfl⟩
  have hrn : r ≤ n := by rw [← hl, ← hr]; exact rankK_le
  obtain ⟨ax, cx, ht, hsl⟩ := run_slice_from (P := Tryz.prog) Tryz.elem166 ao n c r (n - r) (i := (r : Int)) rfl (by omega)
  obtain ⟨n', hn'⟩ : ∃ n', n - r = n' := ⟨_, rfl⟩
  rw [hn'] at hsl
  obtain ⟨z, hz⟩ : ∃ z : Nat, (if m ≤ 0 then 0 else if (n' : Int) ≤ m then n' else m.toNat) = z := ⟨_, rfl⟩
  have hzn : z ≤ n' := by rw [← hz]; split <;> (try split) <;> omega
  have HSC : Hid (scanL l k m = (l.drop r).take z) := hid (by
    unfold scanL
    rw [hr, ← hz]
    split
    · rw [show m.toNat = 0 by omega]
    · split
      · rw [List.take_of_length_le (by rw [List.length_drop]; omega), List.take_of_length_le (by rw [List.length_drop]; omega)]
      · rfl)
  have HLN : Hid ((scanL l k m).length = z) := hid (by rw [HSC.out, List.length_take, List.length_drop]; omega)
  have HR := hid hr; have HN' := hid hn'
  have hn4 : n ≤ 4096 := by omega
  have HL := hid hl
  have hcx : n' ≤ cx := by have := ht; obtain ⟨_, rfl⟩ := this; omega
  have hs2 := run_slice_to (P := Tryz.prog) Tryz.elem166 ax n' cx z (by omega)
  have HT := hid ht
  have e2 : min (max m 0) (n' : Int) = (z : Int) := by
    rw [← hz, Int.min_def, Int.max_def]
    split <;> split <;> (try split) <;> (try split) <;> omega
  clear hl hr hn'
  go_enter Tryz.func88, Tryz.ntmps88
  go_wp2_with fail
  have hN : Nonempty (Cls fun w' => St W w' (row b 0 [.int .i64 room, .slice ao n c] :: OwnS 10 ao n c (tabC l) :: R)) := Cls.inh s
  have f1 := fun s : Cls (fun w' => St W w' (row b 0 [.int .i64 room, .slice ao n c] :: OwnS 10 ao n c (tabC l) :: R)) => run_ldP (t := 166) (o := 1) (by kernel_rfl) (by have := (rowTwo s.h).2.1; rwa [Nat.zero_add] at this)
  refine wp_region_class (fun w' => St W w' (row b 0 [.int .i64 room, .slice ao n c] :: OwnS 10 ao n c (tabC l) :: R)) (by kernel_rfl) (by kernel_rfl) s.drew ?_
  repeat (go_big_quiet_step ((rename_i s; go_at_call 138; refine rank2_c hs hn4 s.h ?_; rintro w4 s4; rw [HR.out]; exact Cls.end _ s4)))
  clear hN f1
  refine wpQuiet_nil ?_
  rintro ⟨w6, s6⟩
  dsimp only
  have rdx := (OwnS.rd (St.pick 1 s6)).tail (k := r) (n' := n') (by have := HN'.out; omega) HT.out
  have rdz := rdx.short hzn
  have HCL : Hid (((tabC l).drop (r * 10)).take (z * 10) = tabC (scanL l k m)) := hid (by
    rw [HSC.out, tabC_drop (by rw [HL.out]; exact hrn), tabC_take (by rw [List.length_drop, HL.out, HN'.out]; exact hzn)])
  have hzb : z * 104 ≤ 140737488355328 := by have := HN'.out; omega
  clear rdx
  go_wp2_with (first
    | (at_builtin; refine wpl_max rfl _ _ rfl rfl rfl ?_)
    | (at_builtin; refine wpl_min rfl _ _ rfl rfl rfl ?_; rw [e2])
    | (go_at_call 139; refine cloneE_c s6 rdz hzb ?_; rintro a7 c7 w7 s7; rw [HCL.out] at s7))
  exact HK.out _ _ _ _ HLN.out.symm (by have := TabE.close (s7.perm [1, 1]); exact St.pick 1 this)
end
end Go.Proofs.YtggbeedghblakaaGreatDoor
