/- Sums: an entry's number; a sum to which entries come and from which they go. -/
import Derived.Test.YtojfjbbggpfijaaGreatDoorOcts
import Derived.Test.YtojfjbbggpfijaaGreatDoorClks
import Derived.Test.YtojfjbbggpfijaaGreatDoorLibR
namespace Go.Proofs.YtojfjbbggpfijaaGreatDoor
open Go.RowKit Go.Qd

theorem fnv_lt (l : List UInt8) : ∀ n, n < 18446744073709551616 → l.foldl fnvS n < 18446744073709551616 := by
  induction l with
  | nil => intro n h; exact h
  | cons x l ih => intro n _; exact ih _ (Nat.mod_lt _ (by decide))
theorem hash_lt (e : EnV) : hashE e < 18446744073709551616 := by
  unfold hashE
  split
  · exact fnv_lt _ _ (by decide)
  · decide

section
variable {W w : World} {R : List HP} {post : Ending → World → Prop}

set_option maxRecDepth 100000 in
set_option maxHeartbeats 1000000 in
theorem hash_c {e : EnV} (st : St W w R) (K : ∀ w', St W w' R → post (.returned (.int .u64 (hashE e))) w') : Calls Tryz.prog 199 #[.agg e.cells.toArray] w post := by
  have HK := hid K; clear K
  by_cases hc : checkE e = 0
  · have HC := hid hc
    obtain ⟨bs, hbs⟩ : ∃ bs, encE e = bs := ⟨_, rfl⟩
    have hl : 6 ≤ bs.length ∧ bs.length ≤ 4096 := by obtain ⟨_, h2, h3, _⟩ := checkE_ok hc; rw [← hbs, encE_len]; omega
    have hh : hashE e = (bs.take (bs.length - 6)).foldl fnvS 14695981039346656037 := by unfold hashE; rw [if_pos hc, hbs]
    rw [hh] at HK
    have HB := hid hbs
    clear hc hbs hh
    go_enter Tryz.func199, Tryz.ntmps199
    go_wp2_with (first
      | (refine wpl_boxA (vs := e.cells) rfl (.tmp 0) rfl rfl st ?_; rintro T w1 s1)
      | (refine wpl_loadA (vs := e.cells) rfl (.tmp 1) (by rfl) agg_en (by rfl) rfl s1.rowAll ?_)
      | (go_at_call 152; refine encode_c HC.out s1 ?_; rintro a2 n2 c2 w2 hn2 s2; rw [HB.out] at hn2 s2; have hle := (OwnS.rd s2).le; obtain ⟨m, hm⟩ : ∃ m, n2 - 6 = m := ⟨_, rfl⟩; have hsub : IntKind.i64.wrap ((n2 : Int) - 6) = (m : Int) := (by rw [IntWalk.i64_in _ (by omega)]; omega); have hsl := run_slice_to Tryz.elem163 a2 n2 c2 m (by omega); have hmn : m ≤ n2 := (by omega); have hm4 : m ≤ 4096 := (by omega); have HM : Hid (m = bs.length - 6) := hid (by rw [← hm, hn2]); have HL : Hid (m ≤ bs.length) := hid (by rw [← hn2]; exact hmn); clear hm hn2 hl))
    go_loopw [5, 21] (fun nn ii wr => ∃ i : Nat, i ≤ m ∧ ii = .int .i64 i ∧ nn = .int .u64 ((bs.take i).foldl fnvS 14695981039346656037 : Nat) ∧ wr = w2) (fun _ ii _ => m - (intOf ii).toNat)
    case atStart => exact ⟨0, Nat.zero_le _, rfl, by rw [List.take_zero, List.foldl_nil]; simp, rfl⟩
    case round =>
      obtain ⟨i, hi, rfl, rfl, rfl⟩ := hrel
      by_cases hlt : i < m
      · have hib : i < bs.length := Nat.lt_of_lt_of_le hlt HL.out
        have rd := OwnS.rd s2
        obtain ⟨g, o, rfl⟩ := rd.addr (by omega)
        have hcell := rd.at (i := i) (u := .int .u8 (bs[i].toNat : Int)) (by simp [byC, hib])
        have HS : Hid ((bs.take (i + 1)).foldl fnvS 14695981039346656037 = fnvS ((bs.take i).foldl fnvS 14695981039346656037) bs[i]) := hid (by rw [List.take_succ_eq_append_getElem hib, List.foldl_append, List.foldl_cons, List.foldl_nil])
        obtain ⟨x, hx⟩ : ∃ x, bs[i] = x := ⟨_, rfl⟩
        rw [hx] at hcell HS
        have hx8 : (x.toNat : Int) < 256 := by have := x.toNat_lt; omega
        obtain ⟨v, hv⟩ : ∃ v, (bs.take i).foldl fnvS 14695981039346656037 = v := ⟨_, rfl⟩
        have hv64 : v < 18446744073709551616 := by rw [← hv]; exact fnv_lt _ _ (by decide)
        have hxr := xor64 hv64 (show x.toNat < 18446744073709551616 by omega)
        rw [hv] at HS ⊢
        clear hx hv rd
        have hi2 : (i : Int) < (m : Int) := by omega
        go_wp2_with fail
        go_roundw
        case rel =>
          refine ⟨i + 1, by omega, by go_num, ?_, by trivial⟩
          rw [HS.out, IntKind.wrap_u64]
          have e : fnvS v x = (v ^^^ x.toNat) * 1099511628211 % 18446744073709551616 := rfl
          rw [e]
          generalize v ^^^ x.toNat = z
          have e1 : (((z * 1099511628211 % 18446744073709551616 : Nat)) : Int) = (z : Int) * 1099511628211 % 18446744073709551616 := by omega
          rw [e1]
        case measure => simp [intOf]; omega
      · have hie : i = m := by omega
        subst hie
        have HK3 := hid (HK.out _ s2.drop.drop)
        rw [← HM.out] at HK3
        go_wp2_with fail
        exact HK3.out
  · have HC := hid hc
    have hb : (checkE e != 0) = true := by simp [hc]
    have hh : hashE e = 0 := by unfold hashE; rw [if_neg hc]
    rw [hh] at HK
    clear hc hh
    go_enter Tryz.func199, Tryz.ntmps199
    go_wp2_with (first
      | (refine wpl_boxA (vs := e.cells) rfl (.tmp 0) rfl rfl st ?_; rintro T w1 s1)
      | (refine wpl_loadA (vs := e.cells) rfl (.tmp 1) (by rfl) agg_en (by rfl) rfl s1.rowAll ?_)
      | (go_at_call 152; refine encode_no HC.out s1 ?_; rintro w2 s2))
    exact HK.out _ s2.drop

theorem uadd_c {b o x y : Nat} (hc : w.cell? ⟨b, o, none⟩ = some (.int .u64 x)) (hz : w.frozen? ⟨b, o, none⟩ = false)
    (K : post (.returned (.int .u64 ((x + y) % 18446744073709551616 : Nat))) (w.setCell ⟨b, o, none⟩ (.int .u64 ((x + y) % 18446744073709551616 : Nat)))) :
    Calls Tryz.prog 198 #[.pointer (some ⟨b, o, none⟩), .int .u64 y] w post := by
  have HK := hid K; clear K
  have e : (((x + y) % 18446744073709551616 : Nat) : Int) = ((x : Int) + y) % 18446744073709551616 := by omega
  have hs : (Op.intArith .add .u64 (x : Int) (y : Int)).run Tryz.prog w = .ok (.int .u64 (((x + y) % 18446744073709551616 : Nat) : Int)) w := by
    rw [e, ← IntKind.wrap_u64]; simp [go_sem]
  have had := run_call_add (P := Tryz.prog) Tryz.func218 (by kernel_rfl) (by kernel_rfl) (by kernel_rfl) .u64 (by kernel_rfl) hc hz hs
  clear e
  go_enter Tryz.func198, Tryz.ntmps198
  go_wp2
  exact HK.out

end

section
attribute [local go_sem ↓] execOp_ldAny
variable {W w : World} {R : List HP} {post : Ending → World → Prop}
set_option maxRecDepth 100000 in
set_option maxHeartbeats 1000000 in
theorem sumAdd_c {b o n : Nat} {cs : List Value} {e : EnV} (ho : cs[o]? = some (.int .u64 n)) (st : St W w (row b 0 cs :: R))
    (K : ∀ v w', St W w' (row b 0 (cs.set o (.int .u64 ((n + hashE e) % 18446744073709551616 : Nat))) :: R) → post (.returned v) w') :
    Calls Tryz.prog 170 #[.pointer (some ⟨b, o, none⟩), .agg e.cells.toArray] w post := by
  have HK := hid K; clear K
  have hlen : o < cs.length := (List.getElem?_eq_some_iff.1 ho).1
  go_enter Tryz.func170, Tryz.ntmps170
  go_wp2_with (refine wpl_boxA (vs := e.cells) rfl (.tmp 1) rfl rfl st ?_; rintro T w1 s1)
  try simp only [Act.put, List.setIfInBounds_toArray, List.set_cons_succ, List.set_cons_zero]
  have hN : Nonempty (Cls fun w' => St W w' (row T 0 e.cells :: row b 0 cs :: R)) := Cls.inh s1
  have f0 := fun s : Cls (fun w' => St W w' (row T 0 e.cells :: row b 0 cs :: R)) => run_loadG agg_en (vs := e.cells) rfl s.h.rowAll
  refine wp_region_class_tail (fun w' => St W w' (row T 0 e.cells :: row b 0 cs :: R)) 5 (by kernel_rfl) (by kernel_rfl) s1.drew ?_
  simp only [List.take_succ_cons, List.take_zero, List.drop_succ_cons, List.drop_zero]
  repeat (go_big_quiet_step ((rename_i s; go_at_call 199; refine hash_c s.h ?_; rintro w4 s4; exact Cls.end _ s4)))
  refine wpQuiet_nil ?_
  rintro ⟨w5, s5⟩
  dsimp only
  have s6 := St.pick 1 s5
  have hc := s6.rowCell ho
  have hf := s6.rowFree hlen
  have s7 := s6.rowSet hlen (.int .u64 ((n + hashE e) % 18446744073709551616 : Nat))
  rw [Nat.zero_add] at hc hf s7
  go_wp2_with (go_at_call 198; refine uadd_c hc hf ?_)
  exact HK.out _ _ ((St.pick 1 s7).drop)

set_option maxRecDepth 100000 in
set_option maxHeartbeats 1000000 in
theorem sumDrop_c {b o n : Nat} {cs : List Value} {e : EnV} (ho : cs[o]? = some (.int .u64 n)) (st : St W w (row b 0 cs :: R))
    (K : ∀ v w', St W w' (row b 0 (cs.set o (.int .u64 ((n + (18446744073709551616 - hashE e)) % 18446744073709551616 : Nat))) :: R) → post (.returned v) w') :
    Calls Tryz.prog 169 #[.pointer (some ⟨b, o, none⟩), .agg e.cells.toArray] w post := by
  have HK := hid K; clear K
  have hlen : o < cs.length := (List.getElem?_eq_some_iff.1 ho).1
  obtain ⟨h, hh⟩ : ∃ h, hashE e = h := ⟨_, rfl⟩
  have hlt : h < 18446744073709551616 := by rw [← hh]; exact hash_lt e
  rw [hh] at HK
  have HH := hid hh
  clear hh
  obtain ⟨g, hg⟩ : ∃ g : Nat, (18446744073709551616 - h) % 18446744073709551616 = g := ⟨_, rfl⟩
  have hneg : IntKind.u64.wrap (-(h : Int)) = (g : Int) := by rw [IntKind.wrap_u64]; omega
  have hsum : (n + g) % 18446744073709551616 = (n + (18446744073709551616 - h)) % 18446744073709551616 := by omega
  rw [← hsum] at HK
  clear hsum hg hlt
  go_enter Tryz.func169, Tryz.ntmps169
  go_wp2_with (refine wpl_boxA (vs := e.cells) rfl (.tmp 1) rfl rfl st ?_; rintro T w1 s1)
  try simp only [Act.put, List.setIfInBounds_toArray, List.set_cons_succ, List.set_cons_zero]
  have hN : Nonempty (Cls fun w' => St W w' (row T 0 e.cells :: row b 0 cs :: R)) := Cls.inh s1
  have f0 := fun s : Cls (fun w' => St W w' (row T 0 e.cells :: row b 0 cs :: R)) => run_loadG agg_en (vs := e.cells) rfl s.h.rowAll
  refine wp_region_class_tail (fun w' => St W w' (row T 0 e.cells :: row b 0 cs :: R)) 6 (by kernel_rfl) (by kernel_rfl) s1.drew ?_
  simp only [List.take_succ_cons, List.take_zero, List.drop_succ_cons, List.drop_zero]
  repeat (go_big_quiet_step ((rename_i s; go_at_call 199; refine hash_c s.h ?_; rintro w4 s4; rw [HH.out]; exact Cls.end _ s4)))
  refine wpQuiet_nil ?_
  rintro ⟨w5, s5⟩
  dsimp only
  have s6 := St.pick 1 s5
  have hc := s6.rowCell ho
  have hf := s6.rowFree hlen
  have s7 := s6.rowSet hlen (.int .u64 ((n + g) % 18446744073709551616 : Nat))
  rw [Nat.zero_add] at hc hf s7
  go_wp2_with (go_at_call 198; refine uadd_c hc hf ?_)
  exact HK.out _ _ ((St.pick 1 s7).drop)
end
end Go.Proofs.YtojfjbbggpfijaaGreatDoor
