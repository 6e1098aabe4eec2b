/- rota: Next. -/
import Derived.Test.YtnibgchgcggfbadRotaA
namespace Go.Proofs.Ytnibgchgcggfbad
open Go.RowKit Go.Qd

section
variable {W w : World} {R : List HP} {post : Ending → World → Prop} {b : Nat} {full cyc : Int} {L : List Int}

theorem next_none {ak : Option Addr} {ck : Nat} (st : St W w (RotaA b full cyc [] :: R)) (K : post (.returned (.tuple #[.int .i64 0, .bool false, .bool false])) w) :
    Calls Try.prog 8 #[.pointer (some ⟨b, 0, none⟩), .slice ak 0 ck] w post := by
  have HK := hid K; clear K
  obtain ⟨ao, n, c, s⟩ := RotaA.open st
  obtain ⟨h0, h1, h2⟩ := box3 s
  have hn : n = 0 := by have := ivs_len (OwnS.rd (St.pick 1 s)); simpa using this.symm
  subst hn
  go_enter Try.func8, Try.ntmps8
  go_wp2
  go_ret3
  exact HK.out

theorem tail_own {ao : Option Addr} {n c : Nat} {p : Int} {L : List Int} (s : St W w (OwnS 1 ao (n + 1) c (ivs (p :: L)) :: R)) : ∃ ax cx, TailOf 1 ao 1 c ax cx ∧ (∀ w', (Instr.slice 28 (.slice ao (n + 1) c) (some (.int .i64 1)) none none).run Try.prog w' = .ok (.slice ax n cx) w') ∧
    ∀ w' R', St W w' (OwnS 1 ao (n + 1) c (ivs (p :: L)) :: R') → St W w' (OwnS 1 ax n cx (ivs L) :: R') := by
  obtain ⟨ax, cx, ht, hr⟩ := run_slice_from Try.elem28 ao (n + 1) c 1 n (i := 1) rfl (by omega)
  refine ⟨ax, cx, ht, hr, fun w' R' s' => ?_⟩
  have := OwnS.cut s' (k := 1) (by omega)
  obtain ⟨rfl, rfl⟩ := ht
  simpa [ivs] using this

theorem next_take {p : Int} {ak : Option Addr} {nk ck : Nat} (st : St W w (RotaA b full cyc (p :: L) :: R)) (hf : 1 ≤ full ∧ full ≤ 64) (hc : 0 ≤ cyc ∧ cyc ≤ 1000000)
    (K : ∀ w', St W w' (RotaA b full cyc L :: R) → post (.returned (.tuple #[.int .i64 p, .bool (cyc % full == 0), .bool true])) w') :
    Calls Try.prog 8 #[.pointer (some ⟨b, 0, none⟩), .slice ak nk ck] w post := by
  have HK := hid K; clear K
  obtain ⟨hf1, hf2⟩ := hf
  obtain ⟨hc1, hc2⟩ := hc
  obtain ⟨ao, n, c, s⟩ := RotaA.open st
  obtain ⟨h0, h1, h2⟩ := box3 s
  obtain ⟨_, f2⟩ := free3 s
  have rd := OwnS.rd (St.pick 1 s)
  have hn := ivs_len rd
  simp only [List.length_cons] at hn
  obtain ⟨m, rfl⟩ : ∃ m, n = m + 1 := ⟨n - 1, by omega⟩
  have hbig := rd.big
  obtain ⟨g, o, rfl⟩ := rd.addr (by omega)
  have hp := rd.at (i := 0) (u := iv p) rfl
  rw [Nat.add_zero] at hp
  obtain ⟨ax, cx, _, hr, hs⟩ := tail_own (St.pick 1 s)
  clear hn
  go_enter Try.func8, Try.ntmps8
  go_wp2
  have s1 := (s.rowSet (i := 2) (by simp) (.slice ax m cx)).perm [1]
  have s2 := (hs _ _ s1).perm [1]
  rw [Nat.zero_add] at s2
  obtain ⟨g0, g1, g2⟩ := box3 (s2 : St W _ (row b 0 [iv full, iv cyc, .slice ax m cx] :: _))
  generalize w.setCell ⟨b, 2, none⟩ (.slice ax m cx) = w2 at s2 g0 g1 g2 ⊢
  have s3 := RotaA.close (s2 : St W w2 (row b 0 [iv full, iv cyc, .slice ax m cx] :: _))
  clear h0 h1 h2 f2 hp hr hs
  go_quiet (fail)
  go_wp2
  go_ret3
  exact HK.out _ (s3.drewN nq)

theorem next_new {p : Int} {ak : Option Addr} {nk ck : Nat} {zs : List Int} (st : St W w (RotaA b full cyc [] :: R)) (rk : Rds W R 1 ak nk ck (ivs zs)) (hk : zs ≠ []) (hk2 : nk ≤ 100000) (hL : rotaL zs = p :: L) (hf : 1 ≤ full ∧ full ≤ 64) (hc : 0 ≤ cyc ∧ cyc ≤ 1000000)
    (K : ∀ w', St W w' (RotaA b full (cyc + 1) L :: R) → post (.returned (.tuple #[.int .i64 p, .bool ((cyc + 1) % full == 0), .bool true])) w') :
    Calls Try.prog 8 #[.pointer (some ⟨b, 0, none⟩), .slice ak nk ck] w post := by
  have HK := hid K; clear K
  obtain ⟨hf1, hf2⟩ := hf
  obtain ⟨hc1, hc2⟩ := hc
  obtain ⟨ao, n, c, s⟩ := RotaA.open st
  obtain ⟨h0, h1, h2⟩ := box3 s
  obtain ⟨f1, f2⟩ := free3 s
  have hn : n = 0 := by have := ivs_len (OwnS.rd (St.pick 1 s)); simpa using this.symm
  subst hn
  have hkl := ivs_len (rk w st.drop)
  have hk0 : 0 < nk := by rw [← hkl]; exact List.length_pos_iff.2 hk
  have hkn : ((nk : Int) == 0) = false := by simp; omega
  have hrl : (Lib.compact (sortL zs)) = p :: L := hL
  have HRL := hid hrl
  have RK := hid rk
  clear hL hrl hk hkl rk
  have s1 : St W (w.setCell ⟨b, 1, none⟩ (.int .i64 (cyc + 1))) (row b 0 [iv full, iv (cyc + 1), .slice ao 0 c] :: R) := by
    have := (s.rowSet (i := 1) (by simp) (.int .i64 (cyc + 1)))
    rw [Nat.zero_add] at this
    exact (St.pick 1 this).drop
  go_enter Try.func8, Try.ntmps8
  go_wp2_with (first
    | (go_at_call 17; refine values_c s1 ?_; rintro Bs w2 s2; have hb2 := s2.cell)
    | (go_at_call 16; refine sorted_c s2 hb2 (RK.out _ (s2.dropN 2)) hk2 ?_; rintro a3 c3 w3 s3)
    | (go_at_call 15; refine compact_c s3 ?_; rintro w4 s4; rw [HRL.out, List.length_cons] at s4; rw [HRL.out, List.length_cons]; obtain ⟨g0, g1, g2⟩ := box3 (St.pick 2 s4); obtain ⟨_, gf⟩ := free3 (St.pick 2 s4); have rd4 := OwnS.rd s4; have hb4 := rd4.big; obtain ⟨g, o, rfl⟩ := rd4.addr (Nat.succ_pos _); have hp := rd4.at (i := 0) (u := iv p) rfl; rw [Nat.add_zero] at hp; obtain ⟨ax, cx, _, hr, hs⟩ := tail_own s4; clear rd4; have hpp : ∀ v, (w4.setCell ⟨b, 2, none⟩ v).cell? ⟨g, o, none⟩ = some (iv p) := (fun v => (World.cell?_setCell_other (w := w4) ⟨b, 2, none⟩ ⟨g, o, none⟩ v (fun e => by { have := g2; rw [e, hp] at this; cases this })).trans hp)))
  have s5 := ((St.pick 2 s4).rowSet (i := 2) (by simp) (.slice (some ⟨g, o, none⟩) (L.length + 1) c3))
  rw [Nat.zero_add] at s5
  have s6 := ((s5 : St W _ (row b 0 [iv full, iv (cyc + 1), .slice (some ⟨g, o, none⟩) (L.length + 1) c3] :: _)).rowSet (i := 2) (by simp) (.slice ax L.length cx))
  rw [Nat.zero_add] at s6
  have s7 := RotaA.close (St.pick 1 (hs _ _ (St.pick 1 s6)))
  obtain ⟨k0, k1, k2⟩ := box3 s6
  clear s5 s6 hpp g0 g1 g2 gf hp
  generalize (w4.setCell ⟨b, 2, none⟩ (.slice (some ⟨g, o, none⟩) (L.length + 1) c3)).setCell ⟨b, 2, none⟩ (.slice ax L.length cx) = w8 at s7 k0 k1 k2 ⊢
  go_quiet (fail)
  go_wp2
  go_ret3
  exact HK.out _ ((St.pick 1 s7).drop.drewN nq)

end

end Go.Proofs.Ytnibgchgcggfbad
