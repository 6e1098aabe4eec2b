/- The reference's Without: a new slice without the element at a place. -/
import Derived.Test.YtnibgchgcggfbaaDiceA
import Derived.Deep.RegionHeld3
namespace Go.Proofs.Ytnibgchgcggfbaa
open Go.RowKit Go.Qd

theorem without_c {W w : World} {R : List HP} {post : Ending → World → Prop} {ao : Option Addr} {n c : Nat} {zs : List Int} {i : Nat} (st : St W w R) (rds : Rds W R 1 ao n c (ivs zs)) (hi : i < n) (hb : n * 8 ≤ 140737488355328)
    (K : ∀ ao' c' w', St W w' (OwnS 1 ao' (n - 1) c' (ivs (zs.eraseIdx i)) :: R) → post (.returned (.slice ao' (n - 1) c')) w') :
    Calls Try.prog 12 #[.slice ao n c, .int .i64 i] w post := by
  have HK := hid K; clear K
  have rd := rds w st
  have hle := rd.le
  have hbig := rd.big
  have e1 := run_slice_to Try.elem22 ao n c i (by omega)
  obtain ⟨ax, cx, ht, e2⟩ := run_slice_from Try.elem22 ao n c (i + 1) (n - 1 - i) (i := (i : Int) + 1) (by omega) (by omega)
  have hm1 : i + (n - 1 - i) ≤ maxLen := by unfold maxLen; omega
  have hm0 : i ≤ maxLen := by unfold maxLen; omega
  have hm0' : 0 + i ≤ maxLen := by omega
  have r1 : RdS w 1 ao i c ((ivs zs).take (i * 1)) := RdS.short rd (by omega)
  have r2 : Rds W R 1 ax (n - 1 - i) cx ((ivs zs).drop ((i + 1) * 1)) := fun w s => RdS.tail (rds w s) (by omega) ht
  have hcs : (ivs zs).take (i * 1) ++ (ivs zs).drop ((i + 1) * 1) = ivs (zs.eraseIdx i) := by
    rw [Nat.mul_one, Nat.mul_one, List.eraseIdx_eq_take_drop_succ]; simp only [ivs, ← List.map_take, ← List.map_drop, ← List.map_append]
  have hn : i + (n - 1 - i) = n - 1 := by omega
  have hb2 : (i + (n - 1 - i)) * 8 ≤ 140737488355328 := by omega
  have hb1 : (0 + i) * 8 ≤ 140737488355328 := by omega
  have HC := hid hcs; have HN := hid hn; clear hcs hn
  have hwr : IntKind.i64.wrap ((i : Int) + 1) = (i : Int) + 1 := IntWalk.i64_in _ (by omega)
  go_enter Try.func12, Try.ntmps12
  go_wp2
  go_region_held3 (fun _ => True) (trivial)
    (first
      | (have s1 : St W (w.alloc (.cells #[] 3)).drew (OwnS 1 (some ⟨w.heap.size, 0, none⟩) 0 0 [] :: R) := (OwnS.empty (st.alloc #[] 3).drop _).drew
         refine step_append_st rfl (.tmp 5) (.tmp 8) rfl Try.elem22 rfl rfl s1 (r1.alloc (.cells #[] 3)).drew hb1 hm0' ?_; rintro a3 c3 w3 s3; rw [Nat.zero_add, List.nil_append] at s3; rw [Nat.zero_add])
      | (refine step_append_st rfl (.tmp 9) (.tmp 13) rfl Try.elem22 rfl rfl s3 (r2 _ s3.drop) hb2 hm1 ?_; rintro a4 c4 w4 s4; rw [HC.out, HN.out] at s4; rw [HN.out]))
  go_wp2
  exact HK.out _ _ _ s4

end Go.Proofs.Ytnibgchgcggfbaa
