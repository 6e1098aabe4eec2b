/- The replica's Entry, Entries, Sum, Now. -/
import Derived.Test.YtggbeedghblakaaGreatDoorRngA
import Derived.Test.YtggbeedghblakaaGreatDoorRepsM
namespace Go.Proofs.YtggbeedghblakaaGreatDoor
open Go.RowKit Go.Qd RepV

section
attribute [local go_sem ↓] execOp_ldAny
variable {W w : World} {R : List HP} {post : Ending → World → Prop} {A : RAd} {r : RepV}

set_option maxRecDepth 100000 in
set_option maxHeartbeats 2000000 in
theorem entry_c {k : ByteArray} (h : RepOK r) (st : St W w (RepA A r :: R)) (K : ∀ w', St W w' (RepA A r :: R) → post (.returned (.tuple #[.agg (tget r.tab k).cells.toArray, .bool (thas r.tab k)])) w') :
    Calls Tryz.prog 19 #[.pointer (some ⟨A.p, 0, none⟩), .string k] w post := by
  have HK := hid K; clear K
  have hl : r.tab.length ≤ 4096 := by have := h.len; have := h.room; omega
  have HH := hid h; have HL := hid hl
  clear h hl
  obtain ⟨x, hx⟩ : ∃ x, tget r.tab k = x := ⟨_, rfl⟩
  obtain ⟨b, hb⟩ : ∃ b, thas r.tab k = b := ⟨_, rfl⟩
  have HX := hid hx; have HB := hid hb
  rw [hx, hb] at HK
  clear hx hb
  go_enter Tryz.func19, Tryz.ntmps19
  go_wp2_with (first
    | (refine wpl_allocA rfl rfl zero_en st ?_; rintro T w1 s1; have l7 := (repLd (St.pick 1 s1)).2.1)
    | (go_at_call 70; refine getE_c HH.out.tab HL.out (St.pick 2 (RepA.open.1 (St.pick 1 s1))) ?_; rintro w3 s3; rw [HX.out, HB.out]; have s4 : St W w3 (RepA A r :: row T 0 EnV.zero.cells :: R) := RepA.open.2 (s3.perm [1, 1]))
    | (refine wpl_storeA (vs := x.cells) rfl (.tmp 4) (.tmp 12) (by rfl) agg_en (by rfl) (by rfl) rfl (env_one _) (St.pick 1 s4) rfl ?_; rintro w5 s5))
  have hL := run_loadA agg_en (vs := x.cells) rfl s5.rowAll
  exact bodyPost_ret (v := .tuple #[.agg x.cells.toArray, .bool b]) (by simp [results, Tryz.results19, asAddr, hL, Act.put]) rfl (HK.out _ s5.drop)

theorem tabE_rd {tb : Nat} {room : Int} {l : List KE} (s : St W w (TabE tb 0 room l :: R)) : ∃ ao n c, w.cell? ⟨tb, 1, none⟩ = some (.slice ao n c) ∧ RdS w 10 ao n c (tabC l) := by
  obtain ⟨ao, n, c, s⟩ := TabE.open s
  obtain ⟨_, h1, _⟩ := rowTwo s
  exact ⟨ao, n, c, by simpa using h1, OwnS.rd (St.pick 1 s)⟩
set_option maxRecDepth 100000 in
/-- All entries. -/
theorem entries_c (h : RepOK r) (st : St W w (RepA A r :: R)) (K : ∀ a n c w', n = r.tab.length → St W w' (OwnS 9 a n c (ke2 r.tab) :: RepA A r :: R) → post (.returned (.slice a n c)) w') :
    Calls Tryz.prog 23 #[.pointer (some ⟨A.p, 0, none⟩)] w post := by
  have hl : r.tab.length ≤ 4096 := by have := h.len; have := h.room; omega
  have c7 := (repPtr (RepA.open.1 st)).2.1
  obtain ⟨ao, n, c, ht, rd⟩ := tabE_rd (St.pick 2 (RepA.open.1 st))
  have hn := tabC_ln rd
  have hlo : 0 < (tabC r.tab).length → ∀ a, ao = some a → a.block < w.heap.size := rd.low
  refine (callsIn_wide.1 (entries_in Fence.wide 4 trivial trivial trivial rfl (Nat.le_refl _) A.p A.tb ao n c r.tab (by omega) w c7 ht rd hlo)).mono ?_
  rintro e w' ⟨v, rfl, hrow, hb⟩
  obtain ⟨ao', c', rfl, s'⟩ := st.ofRow hb hrow (by rw [ke2_len, hn]) (fun u hu => by
    unfold ke2 at hu
    obtain ⟨cs, hc, hu⟩ := List.mem_flatten.1 hu
    obtain ⟨y, _, rfl⟩ := List.mem_map.1 hc
    exact env_one y u hu)
  exact K ao' n c' w' hn.symm s'
end
end Go.Proofs.YtggbeedghblakaaGreatDoor
