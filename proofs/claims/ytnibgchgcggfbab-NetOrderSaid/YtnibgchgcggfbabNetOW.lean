/- NetOrder: the law's own walk. -/
import Derived.Test.YtnibgchgcggfbabNetO
import Derived.Deep.DeepCutAuto
namespace Go.Proofs.Ytnibgchgcggfbab
open Go.RowKit Go.Qd

theorem Try.elem22 : ElemT Try.prog 22 28 1 24 := ElemT.mk' Try.underlying22 (by kernel_rfl : (Try.prog.info? 28).map (fun i => (i.zero, i.size, i.bytes)) = some (some (.slice none 0 0), 1, 24)) rfl (by decide) (by simp [Value.cells, Value.oneCell'])

theorem put_room {N : NetV} {p : PV} (h : (N.ps.length : Int) < N.room) : putN N p = { N with ps := N.ps ++ [p] } := by unfold putN; rw [if_pos h]

theorem take0_c {W w : World} {R : List HP} {post : Ending → World → Prop} {b : Nat} {nd rm d : Int} {f t : Int} {a : Option Addr} {n c : Nat} {bs : List Int} {sp : Bool} {rest : List PV} (st : St W w (NetA b ⟨nd, rm, ⟨f, t, a, n, c, bs, sp⟩ :: rest, [], d⟩ :: R)) (hl : rest.length ≤ 4095)
    (K : ∀ w', St W w' (NetA b ⟨nd, rm, rest, [], d⟩ :: OwnS 1 a n c (bvs bs) :: R) → post (.returned (.tuple #[.int .i64 t, .slice a n c, .int .i64 0])) w') : Calls Try.prog 11 #[.pointer (some ⟨b, 0, none⟩), .int .i64 0] w post := by
  have hc : cutB ⟨nd, rm, ⟨f, t, a, n, c, bs, sp⟩ :: rest, [], d⟩ f t = false := by unfold cutB; simp [lookAt]
  refine take_c (i := 0) st (Nat.succ_pos _) (fun p hp => by cases hp) (by show rest.length + 1 ≤ 4096; omega) (fun w' s' => ?_)
  show post (.returned (if cutB ⟨nd, rm, ⟨f, t, a, n, c, bs, sp⟩ :: rest, [], d⟩ f t = true then .tuple #[.int .i64 0, .slice none 0 0, .int .i64 13] else .tuple #[.int .i64 t, .slice a n c, .int .i64 0])) w'
  rw [hc]
  exact K w' s'

theorem ends0_c {W w : World} {R : List HP} {post : Ending → World → Prop} {b : Nat} {nd rm d : Int} {f t : Int} {a : Option Addr} {n c : Nat} {bs : List Int} {sp : Bool} {rest : List PV} (st : St W w (NetA b ⟨nd, rm, ⟨f, t, a, n, c, bs, sp⟩ :: rest, [], d⟩ :: R))
    (K : ∀ q, post (.returned (.tuple #[.int .i64 f, .int .i64 t, .bool true])) (w.drewN q)) : Calls Try.prog 10 #[.pointer (some ⟨b, 0, none⟩), .int .i64 0] w post :=
  ends_c (i := 0) st (Nat.succ_pos _) K

set_option maxRecDepth 100000 in
set_option maxHeartbeats 1600000 in
theorem netOrder_c {W : World} {post : Ending → World → Prop} {al : Option Addr} {nl cl : Nat} {l : List BV} {wh : Nat}
    (rl : RdS W 1 al nl cl (bcells l)) (hok : ∀ x ∈ l, x.ok W) (hwh : wh ≤ 255)
    (K : ∀ w', Below W.heap.size W w' → post (.returned (.bool true)) w') : Calls Try.prog 3 #[.slice al nl cl, .int .u8 wh] W post := by
  have HK := hid K; clear K
  have hml := rl.big
  have s0 := St.init W
  have hll := bcells_len rl
  by_cases h1 : nl ≤ 40 ∧ 0 < nl
  · obtain ⟨h1, h2⟩ := h1
    have HLL := hid hll
    have HOK := hid hok
    have hnz : ((nl : Int) == 0) = false := by simp; omega
    clear hll hok
    go_enter Try.func3, Try.ntmps3
    go_wp2_with (first
      | (go_at_call 6; refine speaks_c s0 ?_; rintro w1 s1)
      | (go_at_call 7; refine net_new_c s1 (by omega) ?_; rintro b w2 s2))
    go_loopw [43] (fun ii wr => ∃ (i : Nat) (ps : List PV), i ≤ nl ∧ ii = .int .i64 i ∧ Hid (SentAt l i ps) ∧ St W wr (NetA b ⟨3, 41, ps, [], 0⟩ :: [])) (fun ii _ => nl - (intOf ii).toNat)
    case atStart => exact ⟨0, [], Nat.zero_le _, rfl, hid (SentAt.start l), s2⟩
    case round =>
      obtain ⟨i, ps, hi, rfl, hs, sr⟩ := hrel
      by_cases hlt : i < nl
      · obtain ⟨g, o, rfl⟩ := rl.addr (by omega)
        have hil : i < l.length := by rw [HLL.out]; exact hlt
        have hc := (rl.st sr).at (bcells_get hil)
        have hxok := HOK.out _ (List.getElem_mem hil)
        have hstep := hid (fun (a : Option Addr) (n c : Nat) (hn : n ≤ 100) => hs.out.step hil (a := a) (n := n) (c := c) hn (sp := false))
        obtain ⟨x, hx⟩ : ∃ x, l[i] = x := ⟨_, rfl⟩
        rw [hx] at hc hxok hstep
        clear hx
        obtain ⟨xa, xn, xc, xbs⟩ := x
        dsimp only [BV.val] at hc
        have rx : RdS W 1 xa xn xc (bvs xbs) := hxok
        dsimp only at hstep
        by_cases h100 : xn ≤ 100
        · have hlk : (linkB 3 ((i : Int) % 2) 2 && decide ((ps.length : Int) < 41)) = true := by
            rw [linkB_eq]; have := hs.out.1; simp; omega
          have hlk1 : linkB 3 ((i : Int) % 2) 2 = true := by rw [linkB_eq]; simp; omega
          have hpl := hid (show (ps.length : Int) < 41 by have := hs.out.1; omega)
          have HLK := hid hlk
          have HLK1 := hid hlk1
          clear hlk hlk1
          go_wp2_with (go_at_call 8; refine send_c sr (rx.rds _) (by omega) (by show (41 : Int) ≤ 4096; omega) (by show (0 : Int) ≤ 0 ∧ (0 : Int) ≤ 4611686018427387904; omega) ?_; rintro w3 a3 c3 s3 _; have s4 := s3 HLK1.out; rw [put_room (by exact hpl.out)] at s4; clear s3; rw [HLK.out])
          go_roundw
          case rel => exact ⟨i + 1, _, by omega, by go_num, hid (hstep.out a3 xn c3 h100), s4⟩
          case measure => simp [intOf]; omega
        · go_wp2
          exact HK.out _ sr.below
      · have hin : i = nl := by omega
        subst hin
        have hka : (wh % i) < i := Nat.mod_lt _ h2
        obtain ⟨k, hk⟩ : ∃ k, wh % i = k := ⟨_, rfl⟩
        rw [hk] at hka
        have hki : (wh : Int) % (i : Int) = (k : Int) := by rw [← hk]; omega
        have hpsl : ps.length = i := hs.out.1
        have hkp : k < ps.length := by omega
        have hkl : k < l.length := by rw [HLL.out]; exact hka
        have hp4 : ∀ p ∈ ps, p.n ≤ 4096 := by
          intro p hp
          obtain ⟨j, hj, rfl⟩ := List.getElem_of_mem hp
          have := (hs.out.2 j hj).2.2.1; omega
        have hroom : (ps.length : Int) < 41 := by omega
        have HP4 := hid hp4
        have HRM := hid hroom
        have hall := hid (fun (a : Option Addr) (c : Nat) => SentAt.all (l := l) (ps := ps) (by rw [HLL.out]; exact hs.out) hkp a c)
        have HHK := hid hk
        clear hp4 hroom hpsl hs hk
        obtain ⟨g, o, rfl⟩ := rl.addr (by omega)
        have hcw : ∀ w' (s' : ∃ R, St W w' R), w'.cell? ⟨g, o + k, none⟩ = some l[k].val := fun w' ⟨_, s'⟩ => (rl.st s').at (bcells_get hkl)
        have HCW := hid hcw
        clear hcw
        have hgd := hid (show l.getD k ⟨none, 0, 0, []⟩ = l[k] by simp [List.getD, hkl])
        obtain ⟨x, hx⟩ : ∃ x, l[k] = x := ⟨_, rfl⟩
        rw [hx] at HCW hgd
        have HX := hid hx
        clear hx
        go_wp2_with (go_at_call 9; refine copy_c sr hkp HP4.out (by show (41 : Int) ≤ 4096; omega) (by show (0 : Int) ≤ 0 ∧ (0 : Int) ≤ 4611686018427387904; omega) ?_; rintro w3 a3 c3 s3; rw [put_room (by exact HRM.out)] at s3; rw [if_pos (by exact HRM.out)])
        obtain ⟨PS, hPS⟩ : ∃ PS, ps ++ [{ ps[k] with a := a3, c := c3 }] = PS := ⟨_, rfl⟩
        have s3' : St W w3 (NetA b ⟨3, 41, ps ++ [{ ps[k] with a := a3, c := c3 }], [], 0⟩ :: []) := s3
        rw [hPS] at s3'
        have hA : AllAt l k PS := by rw [← hPS]; exact hall.out a3 c3
        clear s3 hPS
        have HA := hid hA
        clear hA
        go_cut [75, 76, 77] (fun q nn z wx => ∃ (a6 : Option Addr) (c6 : Nat), q = .slice a6 (i + 1) c6 ∧ nn = .int .i64 (i + 1) ∧ z = .int .i64 0 ∧ St W wx (OwnS 1 a6 (i + 1) c6 (bcells (l ++ [x])) :: NetA b ⟨3, 41, PS, [], 0⟩ :: []))
        case first =>
          obtain ⟨xa, xn, xc, xbs⟩ := x
          have hd0 : ∀ (Y : World) (L : List HP), St W Y L → Y.cell? ⟨g, o + k, none⟩ = some (.slice xa xn xc) := fun Y L s => HCW.out Y ⟨L, s⟩
          have HD := hid hd0
          clear hd0 HCW
          have sA : St W (w3.alloc (.cells #[] 28)).drew (OwnS 1 (some ⟨w3.heap.size, 0, none⟩) 0 0 [] :: NetA b ⟨3, 41, PS, [], 0⟩ :: []) := (OwnS.empty (s3'.alloc #[] 28).drop _).drew
          have sC : St W (w3.alloc (.cells #[.slice xa xn xc] 28)).drew (row w3.heap.size 0 [.slice xa xn xc] :: NetA b ⟨3, 41, PS, [], 0⟩ :: []) := (s3'.alloc #[.slice xa xn xc] 28).drew
          have ez : (w3.alloc (.cells #[] 28)).heap.size = w3.heap.size + 1 := by simp
          have ec : (w3.alloc (.cells #[.slice xa xn xc] 28)).heap.size = w3.heap.size + 1 := by simp
          have sAC : St W ((w3.alloc (.cells #[] 28)).alloc (.cells #[.slice xa xn xc] 28)).drew (OwnS 1 (some ⟨w3.heap.size, 0, none⟩) 0 0 [] :: row (w3.heap.size + 1) 0 [.slice xa xn xc] :: NetA b ⟨3, 41, PS, [], 0⟩ :: []) := by
            have := (OwnS.empty (sz := 1) (s3'.alloc #[] 28).drop (some ⟨w3.heap.size, 0, none⟩)).alloc #[.slice xa xn xc] 28
            rw [ez] at this
            exact (St.pick 1 this).drew
          have sCA : St W ((w3.alloc (.cells #[.slice xa xn xc] 28)).alloc (.cells #[] 28)).drew (OwnS 1 (some ⟨w3.heap.size + 1, 0, none⟩) 0 0 [] :: row w3.heap.size 0 [.slice xa xn xc] :: NetA b ⟨3, 41, PS, [], 0⟩ :: []) :=
            (OwnS.empty ((s3'.alloc #[.slice xa xn xc] 28).alloc #[] 28).drop _).drew
          have hb1 : (0 + i) * 24 ≤ 140737488355328 := by omega
          have hm1 : 0 + i ≤ maxLen := by unfold maxLen; omega
          have hb2 : (i + 1) * 24 ≤ 140737488355328 := by omega
          have hm2 : i + 1 ≤ maxLen := by unfold maxLen; omega
          have hon : ∀ u ∈ [Value.slice xa xn xc], u.oneCell' = true := by simp [Value.oneCell']
          have h3 := HD.out _ _ s3'
          have hA := HD.out _ _ sA
          have hC := HD.out _ _ sC
          have hAC := HD.out _ _ sAC
          have hCA := HD.out _ _ sCA
          clear ez ec
          go_region_held3 (fun w' => w'.cell? ⟨g, o + k, none⟩ = some (.slice xa xn xc))
            (first
              | exact h3
              | exact hA
              | exact hC
              | exact hAC
              | exact hCA
              | exact HD.out _ _ s6
              | exact HD.out _ _ (St.alloc s5 #[.slice xa xn xc] 28)
              | exact HD.out _ _ s5)
            (first
              | (refine step_append_st rfl (.tmp 67) (.tmp 68) rfl Try.elem22 rfl rfl sA (rl.st sA) hb1 hm1 ?_; rintro a5 c5 w5 s5; rw [Nat.zero_add, List.nil_append] at s5; rw [Nat.zero_add])
              | (refine step_append_st rfl (.tmp 67) (.tmp 68) rfl Try.elem22 rfl rfl sAC (rl.st sAC) hb1 hm1 ?_; rintro a5 c5 w5 s5; rw [Nat.zero_add, List.nil_append] at s5; rw [Nat.zero_add])
              | (refine step_append_st rfl (.tmp 67) (.tmp 68) rfl Try.elem22 rfl rfl sCA (rl.st sCA) hb1 hm1 ?_; rintro a5 c5 w5 s5; rw [Nat.zero_add, List.nil_append] at s5; rw [Nat.zero_add])
              | (refine step_append_st rfl (.tmp 69) (.tmp 74) rfl Try.elem22 rfl rfl (St.pick 1 (St.alloc s5 #[.slice xa xn xc] 28)) (St.rowRd (sz := 1) (n := 1) (St.alloc s5 #[.slice xa xn xc] 28) rfl (by decide) hon) hb2 hm2 ?_; rintro a6 c6 w6 s6)
              | (refine step_append_st rfl (.tmp 69) (.tmp 74) rfl Try.elem22 rfl rfl s5 (St.rowRd (sz := 1) (n := 1) (St.pick 1 s5) rfl (by decide) hon) hb2 hm2 ?_; rintro a6 c6 w6 s6))
          all_goals
            go_wp2_with fail
            go_meet
            case rel => exact ⟨a6, c6, rfl, by go_num, rfl, by have := s6.sel [0, 1]; simp only [bcells, List.map_append]; exact this⟩
        case rest =>
          obtain ⟨a6, c6, rfl, rfl, rfl, s6⟩ := hcut
          have hPSl : PS.length = i + 1 := by have := HA.out.1; rw [HLL.out] at this; exact this
          have HPS := hid hPSl
          have hyl : (l ++ [x]).length = i + 1 := by rw [List.length_append, HLL.out]; rfl
          have HYL := hid hyl
          have hyok : ∀ y ∈ l ++ [x], y.ok W := by
            intro y hy
            rcases List.mem_append.1 hy with h | h
            · exact HOK.out y h
            · have : y = x := by simpa using h
              rw [this, ← HX.out]; exact HOK.out _ (List.getElem_mem hkl)
          have HYOK := hid hyok
          clear hPSl hyl hyok
          go_wp2_with fail
          go_loopw [77] (fun jj wr => ∃ j : Nat, j ≤ i + 1 ∧ jj = .int .i64 j ∧ St W wr (OwnS 1 a6 (i + 1) c6 (bcells (l ++ [x])) :: NetA b ⟨3, 41, PS.drop j, [], 0⟩ :: [])) (fun jj _ => i + 1 - (intOf jj).toNat)
          case atStart => exact ⟨0, Nat.zero_le _, rfl, s6⟩
          case round =>
            obtain ⟨j, hj, rfl, sj⟩ := hrel
            by_cases hlt2 : j < i + 1
            · have hjp : j < PS.length := by rw [HPS.out]; exact hlt2
              have hjy : j < (l ++ [x]).length := by rw [HYL.out]; exact hlt2
              obtain ⟨p1, p2, p3, p4, p5⟩ := HA.out.2 j hjp
              have hdrop := List.drop_eq_getElem_cons hjp
              have hyok1 := HYOK.out _ (List.getElem_mem hjy)
              obtain ⟨g6, o6, rfl⟩ := (OwnS.rd sj).addr (by omega)
              have hcy := (OwnS.rd sj).at (bcells_get hjy)
              have hpy : PS[j].bs = (l ++ [x])[j].bs := by rw [p5]; congr 1; simp only [hgd.out]
              rw [HLL.out] at p2 p3
              rw [hdrop] at sj
              obtain ⟨P, hP⟩ : ∃ P, PS[j] = P := ⟨_, rfl⟩
              obtain ⟨y, hy⟩ : ∃ y, (l ++ [x])[j] = y := ⟨_, rfl⟩
              rw [hP] at sj p1 p2 p3 hpy
              rw [hy] at hyok1 hcy hpy
              clear hP hy p5 p4 hdrop
              obtain ⟨pf, pt, pa, pn, pc, pbs, psp⟩ := P
              obtain ⟨ya, yn, yc, ybs⟩ := y
              dsimp only [BV.val] at p1 p2 p3 hpy hcy
              subst p1
              subst hpy
              have ry : RdS W 1 ya yn yc (bvs pbs) := hyok1
              have hlen4 : (PS.drop (j + 1)).length ≤ 4095 := by rw [List.length_drop, HPS.out]; omega
              have HL4 := hid hlen4
              clear hlen4
              have hmn : IntKind.i64.wrap (0 : Int) = 0 := rfl
              clear hmn
              by_cases hji : j < i
              · have p2' := p2 hji
                subst p2'
                clear p2 p3
                go_wp2_with (first
                  | (go_at_call 10; refine ends0_c (St.pick 1 sj) ?_; rintro q)
                  | (go_at_call 11; refine take0_c (St.pick 1 (sj.drewN q)) HL4.out ?_; rintro w7 s7; have hcv1 := run_str (OwnS.rd (St.pick 1 s7)); have hcv2 := run_str (ry.st s7)))
                go_roundw
                case rel => exact ⟨j + 1, by omega, by go_num, s7.sel [2, 0]⟩
                case measure => simp [intOf]; omega
              · have hji' : j = i := by omega
                subst hji'
                have p3' := p3 rfl
                subst p3'
                clear p2 p3 hji
                go_wp2_with (first
                  | (go_at_call 10; refine ends0_c (St.pick 1 sj) ?_; rintro q)
                  | (go_at_call 11; refine take0_c (St.pick 1 (sj.drewN q)) HL4.out ?_; rintro w7 s7; have hcv1 := run_str (OwnS.rd (St.pick 1 s7)); have hcv2 := run_str (ry.st s7)))
                all_goals
                  go_roundw
                  case rel => exact ⟨j + 1, by omega, by go_num, s7.sel [2, 0]⟩
                  case measure => first | (simp [intOf]; done) | (simp [intOf]; omega)
            · have hje : j = i + 1 := by omega
              subst hje
              have hnil : PS.drop (i + 1) = [] := List.drop_eq_nil_of_le (by rw [HPS.out]; exact Nat.le_refl _)
              rw [hnil] at sj
              clear hnil
              go_wp2_with (first
                | (go_at_call 12; refine len_c (St.pick 1 sj) ?_)
                | (go_at_call 13; refine dropped_c (St.pick 1 sj) ?_))
              exact HK.out _ sj.below
  · by_cases h40 : nl ≤ 40
    · have hz : nl = 0 := by omega
      subst hz
      clear h1
      go_enter Try.func3, Try.ntmps3
      go_wp2_with (first
        | (go_at_call 6; refine speaks_c s0 ?_; rintro w1 s1)
        | (go_at_call 6; refine speaks_c s1 ?_; rintro w2 s2))
      exact HK.out _ s2.below
    · clear h1
      go_enter Try.func3, Try.ntmps3
      go_wp2_with (first
        | (go_at_call 6; refine speaks_c s0 ?_; rintro w1 s1)
        | (go_at_call 6; refine speaks_c s1 ?_; rintro w2 s2))
      exact HK.out _ s2.below

end Go.Proofs.Ytnibgchgcggfbab
