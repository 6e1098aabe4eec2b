/- NetTrue: the law's own walk. -/
import Derived.Test.YtnibgchgcggfbabNetX
namespace Go.Proofs.Ytnibgchgcggfbab
open Go.RowKit Go.Qd

theorem Try.elem37 : ElemT Try.prog 37 47 7 64 := ElemT.mk' Try.underlying37 (by kernel_rfl : (Try.prog.info? 47).map (fun i => (i.zero, i.size, i.bytes)) = some (some (.agg #[.int .i64 0, .int .i64 0, .int .i64 0, .int .i64 0, .slice none 0 0, .int .u8 0, .bool false]), 7, 64)) rfl (by decide) (by simp [Value.cells, Value.oneCell'])

theorem box7 {W w : World} {R : List HP} {B : Nat} {x0 x1 x2 x3 x4 x5 x6 : Value} (s : St W w (row B 0 [x0, x1, x2, x3, x4, x5, x6] :: R)) :
    w.cell? ⟨B, 0, none⟩ = some x0 ∧ w.cell? ⟨B, 1, none⟩ = some x1 ∧ w.cell? ⟨B, 2, none⟩ = some x2 ∧ w.cell? ⟨B, 3, none⟩ = some x3 ∧ w.cell? ⟨B, 4, none⟩ = some x4 ∧ w.cell? ⟨B, 5, none⟩ = some x5 ∧ w.cell? ⟨B, 6, none⟩ = some x6 :=
  ⟨s.rowCell (i := 0) rfl, by have := s.rowCell (i := 1) rfl; rwa [Nat.zero_add] at this, by have := s.rowCell (i := 2) rfl; rwa [Nat.zero_add] at this, by have := s.rowCell (i := 3) rfl; rwa [Nat.zero_add] at this,
    by have := s.rowCell (i := 4) rfl; rwa [Nat.zero_add] at this, by have := s.rowCell (i := 5) rfl; rwa [Nat.zero_add] at this, by have := s.rowCell (i := 6) rfl; rwa [Nat.zero_add] at this⟩

theorem actCells_snoc (S : List ActV) (a : ActV) : actCells (S ++ [a]) = actCells S ++ a.cells := by simp [actCells]

/-- Where the loop stands. -/
def TrueAt (W : World) (room b k : Nat) (N : NetV) (S : List ActV) (aS : Option Addr) (ns cs : Nat) (wr : World) : Prop :=
  NT room k N S ∧ S.length = ns ∧ (∀ a ∈ S, a.ok W) ∧ St W wr (NetA b N :: OwnS 7 aS ns cs (actCells S) :: [])

set_option maxRecDepth 100000 in
set_option maxHeartbeats 4000000 in
theorem netTrue_c {W : World} {post : Ending → World → Prop} {al : Option Addr} {nl cl : Nat} {l : List ActV} {room : Nat}
    (rl : RdS W 7 al nl cl (actCells l)) (hok : ∀ x ∈ l, x.ok W) (hroom : room ≤ 255)
    (K : ∀ w', Below W.heap.size W w' → post (.returned (.bool true)) w') : Calls Try.prog 5 #[.int .u8 room, .slice al nl cl] W post := by
  have HK := hid K; clear K
  have hml := rl.big
  have s0 := St.init W
  have hll := hid (actCells_len rl)
  by_cases h1 : fewB l = true
  · have h100 : ∀ x ∈ l, x.m ≤ 100 := by
      unfold fewB at h1
      simp only [Bool.and_eq_true, List.all_eq_true, decide_eq_true_eq] at h1
      exact h1.1
    have hn60 : nl ≤ 60 := by
      unfold fewB at h1
      simp only [Bool.and_eq_true, decide_eq_true_eq] at h1
      rw [hll.out] at h1; exact h1.2
    have H100 := hid h100; have HOK := hid hok; have HF := hid h1; clear h100 hok h1
    go_enter Try.func5, Try.ntmps5
    go_wp2_with (first
      | (go_at_call 6; refine speaks_c s0 ?_; rintro w1 s1)
      | (go_at_call 14; refine few_c s1 rl ?_; rintro w2 s2; rw [HF.out])
      | (go_at_call 7; refine net_new_c s2 (by omega) ?_; rintro b w3 s3))
    go_loopw [7, 39] (fun sv ii wr => ∃ (k : Nat) (N : NetV) (S : List ActV) (aS : Option Addr) (ns cs : Nat), k ≤ nl ∧ ii = .int .i64 k ∧ sv = .slice aS ns cs ∧ Hid (TrueAt W room b k N S aS ns cs wr)) (fun _ ii _ => nl - (intOf ii).toNat)
    case atStart => exact ⟨0, _, [], none, 0, 0, Nat.zero_le _, rfl, rfl, hid ⟨NT.start room, rfl, fun _ h => (by cases h), (OwnS.none0 s3).perm [1]⟩⟩
    case round =>
      obtain ⟨k, N, S, aS, ns, cs, hk, rfl, rfl, hT⟩ := hrel
      obtain ⟨hNT, hSl, hSok, sr⟩ := hT.out
      have HNT := hid hNT; have HSL := hid hSl; have HSOK := hid hSok
      have hns : ns ≤ 60 := by have := hNT.few; omega
      clear hNT hSl hSok hT
      by_cases hlt : k < nl
      · obtain ⟨g, o, rfl⟩ := rl.addr (by omega)
        have hkl : k < l.length := by rw [hll.out]; exact hlt
        obtain ⟨c0, c1, c2, c3, c4, c5, c6⟩ := act7 (rl.st sr) hkl
        have hxok := HOK.out _ (List.getElem_mem hkl)
        have hx100 := H100.out _ (List.getElem_mem hkl)
        obtain ⟨x, hx⟩ : ∃ x, l[k] = x := ⟨_, rfl⟩
        rw [hx] at c0 c1 c2 c3 c4 c5 c6 hxok hx100
        clear hx
        have HX := hid hxok
        clear hxok
        have rx : RdS W 1 x.a x.m x.c (bvs x.L) := HX.out
        have s4 := sr.alloc #[.int .i64 x.kind, .int .i64 x.i, .int .i64 x.x, .int .i64 x.y, .slice x.a x.m x.c, .int .u8 x.by_, .bool x.cut] 47
        have hk60 : k ≤ 60 := by omega
        by_cases hk0 : x.kind = 0
        · rw [hk0] at c0 s4
          have hk0' := hk0
          clear hk0
          have hxc : x.cells = [.int .i64 0, .int .i64 x.i, .int .i64 x.x, .int .i64 x.y, .slice x.a x.m x.c, .int .u8 x.by_, .bool x.cut] := by rw [← hk0']; rfl
          have HXC := hid hxc
          clear hk0' hxc
          have hb1 : (ns + 1) * 64 ≤ 140737488355328 := by omega
          have hm1 : ns + 1 ≤ maxLen := by unfold maxLen; omega
          obtain ⟨okk, hokk⟩ : ∃ okk, (linkB N.nodes x.x x.y && decide ((N.ps.length : Int) < N.room)) = okk := ⟨_, rfl⟩
          have HO := hid hokk
          clear hokk
          cases okk with
          | false =>
            go_wp2_with (first
              | (go_at_call 8; refine nt_send_c HO.out (St.pick 1 s4) HNT.out hroom hk60 rx hx100 ?_; rintro w5 N' s5 h5; have H5 := hid h5; have hlen := h5.len; clear h5)
              | (go_at_call 12; refine len_c s5 ?_))
            go_roundw
            case rel => exact ⟨k + 1, N', S, aS, ns, cs, by omega, by go_num, rfl, hid ⟨by simpa using H5.out, HSL.out, HSOK.out, s5.sel [0, 1]⟩⟩
            case measure => simp [intOf]; omega
          | true =>
            go_wp2_with (first
              | (go_at_call 8; refine nt_send_c HO.out (St.pick 1 s4) HNT.out hroom hk60 rx hx100 ?_; rintro w5 N' s5 h5; have H5 := hid h5; have hlen := h5.len; clear h5; obtain ⟨y0, y1, y2, y3, y4, y5, y6⟩ := box7 (St.pick 1 s5); have s6 := s5.alloc #[.int .i64 0, .int .i64 x.i, .int .i64 x.x, .int .i64 x.y, .slice x.a x.m x.c, .int .u8 x.by_, .bool x.cut] 47; have r6 := St.rowRd (sz := 7) (n := 1) s6 rfl (by decide) (by simp [Value.oneCell']); have s7 : St W _ (OwnS 7 aS ns cs (actCells S) :: _) := St.pick 3 s6)
              | (go_at_call 12; refine len_c s8 ?_)
              | (at_builtin; refine wpl_append rfl _ _ rfl Try.elem37 rfl rfl s7 r6 hb1 hm1 ?_; rintro a8 c8 w8 s8'; have s8 := St.pick 2 s8'))
            go_roundw
            case rel => exact ⟨k + 1, N', S ++ [x], a8, ns + 1, c8, by omega, by go_num, rfl, hid ⟨by simpa using H5.out, by simp [HSL.out], fun a ha => by rcases List.mem_append.1 ha with h | h; exact HSOK.out a h; (have : a = x := by simpa using h); rw [this]; exact HX.out, by rw [actCells_snoc, HXC.out]; exact s8.sel [0, 0]⟩⟩
            case measure => simp [intOf]; omega
        · by_cases hk1 : x.kind = 1
          · rw [hk1] at c0 s4
            clear hk0 hk1
            obtain ⟨hb, hhb⟩ : ∃ hb, hasB N x.i = hb := ⟨_, rfl⟩
            cases hb with
            | false =>
              have HH := hid hhb; clear hhb
              have hlen := HNT.out.len
              go_wp2_with (first
                | (go_at_call 10; refine ends_no (St.pick 1 s4) HH.out ?_)
                | (go_at_call 11; refine take_no (St.pick 1 s4) HH.out ?_)
                | (go_at_call 12; refine len_c (St.pick 1 s4) ?_))
              go_roundw
              case rel => exact ⟨k + 1, N, S, aS, ns, cs, by omega, by go_num, rfl, hid ⟨HNT.out.more, HSL.out, HSOK.out, s4.sel [1, 1]⟩⟩
              case measure => simp [intOf]; omega
            | true =>
              obtain ⟨i, hxi, hi⟩ := hasB_nat hhb
              rw [hxi] at c1 s4
              have HXI := hid hxi
              clear hxi hhb
              obtain ⟨p, hp⟩ : ∃ p, N.ps[i] = p := ⟨_, rfl⟩
              obtain ⟨cb, hcb⟩ : ∃ cb, cutB N p.f p.t = cb := ⟨_, rfl⟩
              have HP := hid hp
              have HCB := hid hcb
              clear hp hcb
              cases cb with
              | true =>
                go_wp2_with (first
                  | (go_at_call 10; refine ends_c (St.pick 1 s4) hi ?_; rintro q; have s5 := s4.drewN q)
                  | (go_at_call 11; refine nt_take_cut (St.pick 1 s5) HNT.out hroom hi (by rw [HP.out]; exact HCB.out) ?_; rintro w6 N' s6 h6; have H6 := hid h6; have hlen := h6.len; clear h6)
                  | (go_at_call 12; refine len_c s6 ?_))
                go_roundw
                case rel => exact ⟨k + 1, N', S, aS, ns, cs, by omega, by go_num, rfl, hid ⟨H6.out, HSL.out, HSOK.out, s6.sel [0, 1]⟩⟩
                case measure => simp [intOf]; omega
              | false =>
                go_wp2_with (first
                  | (go_at_call 10; refine ends_c (St.pick 1 s4) hi ?_; rintro q; rw [HP.out]; have s5 := s4.drewN q)
                  | (go_at_call 11; refine nt_take_c (St.pick 1 s5) HNT.out hroom hi HP.out HCB.out ?_; rintro w6 N' s6 h6 h7 h8; have H6 := hid h6; have H7 := hid h7.among; have H8 := hid h8; have H9 := hid h6.cuts; have hlen := h6.len; clear h6 h7 h8)
                  | (go_at_call 17; refine isCut_c s6 H9.out ?_; rintro w7 s7; rw [show (linkB N'.nodes p.f p.t && (lookAt (min p.f p.t, max p.f p.t) N'.cuts 0).isSome) = false from H8.out])
                  | (go_at_call 20; refine among_c s7 (fun w s => OwnS.rd (St.pick 3 s)) HSOK.out (fun w s => OwnS.rd (St.pick 1 s)) ?_; rintro w8 s8; rw [H7.out])
                  | (go_at_call 12; refine len_c s8 ?_))
                go_roundw
                case rel => exact ⟨k + 1, N', S, aS, ns, cs, by omega, by go_num, rfl, hid ⟨H6.out, HSL.out, HSOK.out, s8.sel [0, 2]⟩⟩
                case measure => simp [intOf]; omega
          · by_cases hk2 : x.kind = 2
            · rw [hk2] at c0 s4
              clear hk0 hk1 hk2
              go_wp2_with (first
                | (go_at_call 21; refine nt_lose_c (St.pick 1 s4) HNT.out hroom ?_; rintro w5 N' e s5 h5; have H5 := hid h5; have hlen := h5.len; clear h5)
                | (go_at_call 12; refine len_c s5 ?_))
              go_roundw
              case rel => exact ⟨k + 1, N', S, aS, ns, cs, by omega, by go_num, rfl, hid ⟨H5.out, HSL.out, HSOK.out, s5.sel [0, 1]⟩⟩
              case measure => simp [intOf]; omega
            · by_cases hk3 : x.kind = 3
              · rw [hk3] at c0 s4
                clear hk0 hk1 hk2 hk3
                go_wp2_with (first
                  | (go_at_call 9; refine nt_copy_c (St.pick 1 s4) HNT.out hroom hk60 ?_; rintro w5 N' e s5 h5; have H5 := hid h5; have hlen := h5.len; clear h5)
                  | (go_at_call 12; refine len_c s5 ?_))
                go_roundw
                case rel => exact ⟨k + 1, N', S, aS, ns, cs, by omega, by go_num, rfl, hid ⟨H5.out, HSL.out, HSOK.out, s5.sel [0, 1]⟩⟩
                case measure => simp [intOf]; omega
              · by_cases hk4 : x.kind = 4
                · rw [hk4] at c0 s4
                  clear hk0 hk1 hk2 hk3 hk4
                  go_wp2_with (first
                    | (go_at_call 22; refine nt_turn_c (St.pick 1 s4) HNT.out ?_; rintro w5 N' e s5 h5; have H5 := hid h5; have hlen := h5.len; clear h5)
                    | (go_at_call 12; refine len_c s5 ?_))
                  go_roundw
                  case rel => exact ⟨k + 1, N', S, aS, ns, cs, by omega, by go_num, rfl, hid ⟨H5.out, HSL.out, HSOK.out, s5.sel [0, 1]⟩⟩
                  case measure => simp [intOf]; omega
                · go_wp2_with (first
                    | (go_at_call 23; refine nt_cut_c (St.pick 1 s4) HNT.out ?_; rintro w5 N' e s5 h5; have H5 := hid h5; have hlen := h5.len; clear h5)
                    | (go_at_call 12; refine len_c s5 ?_))
                  go_roundw
                  case rel => exact ⟨k + 1, N', S, aS, ns, cs, by omega, by go_num, rfl, hid ⟨H5.out, HSL.out, HSOK.out, s5.sel [0, 1]⟩⟩
                  case measure => simp [intOf]; omega
      · go_wp2
        exact HK.out _ sr.below
  · have hf : fewB l = false := by simpa using h1
    have HF := hid hf
    clear h1 hf
    go_enter Try.func5, Try.ntmps5
    go_wp2_with (first
      | (go_at_call 6; refine speaks_c s0 ?_; rintro w1 s1)
      | (go_at_call 14; refine few_c s1 rl ?_; rintro w2 s2; rw [HF.out])
      | (go_at_call 6; refine speaks_c s2 ?_; rintro w3 s3))
    exact HK.out _ s3.below

end Go.Proofs.Ytnibgchgcggfbab
