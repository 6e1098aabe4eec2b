/- The document's replica of no log. -/
import Derived.Test.YtpjdcijphnkioaaGreatDoorNews
namespace Go.Proofs.YtpjdcijphnkioaaGreatDoor
open Go.RowKit Go.Qd RepV

/-- The document's replica of no log, in its cells. -/
def docZ (o : OptV) (site : Int) : List Value := [.int .i64 o.nodes, .int .i64 o.quota, .int .i64 o.retain, .int .i64 o.t1, .int .i64 o.t2, .slice none 0 0, .int .i64 site, .int .i64 o.t2, .slice none 0 0, .slice none 0 0, .int .i64 site, .int .i64 0, .slice none 0 0]
theorem docZ_one (o : OptV) (site : Int) : ∀ u ∈ docZ o site, u.oneCell' = true := by
  intro u hu; simp only [docZ, List.mem_cons, List.not_mem_nil, or_false] at hu
  rcases hu with rfl | rfl | rfl | rfl | rfl | rfl | rfl | rfl | rfl | rfl | rfl | rfl | rfl <;> rfl
def doc0 : List Value := docZ ⟨0, 0, 0, 0, 0⟩ 0
theorem agg_doc : AggT Tryz.prog 51 13 := ⟨⟨_, Tryz.underlying51, rfl⟩, by kernel_rfl⟩
theorem zero_doc (w : World) : (zeroValue 51).run Tryz.prog w = .ok (.agg doc0.toArray) w := by kernel_rfl
theorem agg_ropt : AggT Tryz.prog 23 5 := ⟨⟨_, Tryz.underlying23, rfl⟩, by kernel_rfl⟩
section
variable {P : Program} {W w : World} {R : List HP} {t : TypeId} {n b o : Nat} {vs us : List Value} {ops : Array Oper} {rest : List Oper} {q : Oper} {A : Act} {Q : Exit → Act → World → Prop}
/-- A store into a part of a row. -/
theorem wpl_storeQ (hgd : q.guard = none) (x y : Operand) (p : Nat) (hop : q.op = Op.store t x y) (T : AggT P t n) (hx : A.eval x = .pointer (some ⟨b, o + p, none⟩)) (hy : A.eval y = .agg vs.toArray) (hl : vs.length = n) (h1 : ∀ u ∈ vs, u.oneCell' = true)
    (s : St W w (row b o us :: R)) (hp : p + n ≤ us.length) (hK : ∀ w', St W w' (row b o (splice us p vs) :: R) → wpList P ops Q rest (A.put q.dst undef) w') : wpList P ops Q (q :: rest) A w := by
  refine wpList_plain hgd fun K hK' => ?_
  obtain ⟨h2, s2⟩ := run_storeA T hl h1 s (p := p) (by omega)
  unfold Oper.wp
  have h2' : (storeVar t ⟨b, o + p, none⟩ (.agg vs.toArray)).run P w = .ok () (w.setCells b (o + p) vs) := h2
  simp [execOp, hop, hx, hy, Instr.storeAt, Instr.sureAddr, h2', Result.andThen]
  exact hK' _ _ (hK _ s2)
end
def docY (o : OptV) (site : Int) : List Value := [.int .i64 o.nodes, .int .i64 o.quota, .int .i64 o.retain, .int .i64 o.t1, .int .i64 o.t2, .slice none 0 0, .int .i64 0, .int .i64 0, .slice none 0 0, .slice none 0 0, .int .i64 site, .int .i64 0, .slice none 0 0]
theorem docY_one (o : OptV) (site : Int) : ∀ u ∈ docY o site, u.oneCell' = true := by
  intro u hu; simp only [docY, List.mem_cons, List.not_mem_nil, or_false] at hu
  rcases hu with rfl | rfl | rfl | rfl | rfl | rfl | rfl | rfl | rfl | rfl | rfl | rfl | rfl <;> rfl
section
variable {W w : World} {R : List HP} {post : Ending → World → Prop} {o : OptV}
theorem rocheck_yes (h : o.check = 0) (st : St W w R) (K : ∀ w', St W w' R → post (.returned (.int .i64 0)) w') : Calls Tryz.prog 5 #[.agg o.cells.toArray] w post := by
  obtain ⟨h1, h2, h3, h4, h5, h6⟩ := check_ok h
  by_cases g : o.t1 = 0
  · exact rock_11 (decide_eq_false (by omega)) (decide_eq_false (by omega)) (decide_eq_false (by omega)) (decide_eq_false (by omega)) (decide_eq_false (by omega)) (decide_eq_false (by omega)) (decide_eq_false (by omega)) (decide_eq_false (by omega)) (by simp [g]) (by simp [h6 g]) (decide_eq_false (by omega)) (decide_eq_false (by omega)) st K
  · exact rock_14 (decide_eq_false (by omega)) (decide_eq_false (by omega)) (decide_eq_false (by omega)) (decide_eq_false (by omega)) (decide_eq_false (by omega)) (decide_eq_false (by omega)) (decide_eq_false (by omega)) (decide_eq_false (by omega)) (by simp [g]) (decide_eq_false (by omega)) (decide_eq_false (by omega)) st K

set_option maxRecDepth 100000 in
set_option maxHeartbeats 8000000 in
theorem ropen0_c {site : Int} (h : o.check = 0) (hs : 0 ≤ site ∧ site < o.nodes) (st : St W w R) (K : ∀ w', St W w' R → post (.returned (.tuple #[.agg (docZ o site).toArray, .int .i64 0])) w') :
    Calls Tryz.prog 12 #[.int .i64 site, .agg o.cells.toArray, .slice none 0 0] w post := by
  have HK := hid K; clear K
  have HC := hid h
  obtain ⟨o1, o2, o3, o4, o5, o6⟩ := check_ok h
  have d1 : decide (site < 0) = false := decide_eq_false (by omega)
  have d2 : decide (o.nodes ≤ site) = false := decide_eq_false (by omega)
  have hs12 : siteB site = true := by unfold siteB; simp; omega
  have ht : 0 ≤ o.t2 ∧ o.t2 ≤ 2147483647 := by omega
  have HS := hid hs12; have HT := hid ht
  clear h hs o1 o2 o3 o4 o5 o6 hs12 ht
  go_enter Tryz.func12, Tryz.ntmps12
  go_wp2_with (first
    | (refine wpl_boxA (vs := o.cells) rfl (.tmp 1) rfl rfl st ?_; rintro T w1 s1)
    | (refine wpl_allocA rfl rfl zero_doc s1 ?_; rintro E w2 s2)
    | (have gg := s2; refine wpl_loadA (vs := o.cells) rfl (.tmp 4) (by rfl) agg_ropt (by rfl) rfl (St.pick 1 s2).rowAll ?_; clear gg)
    | (have gg := s3; refine wpl_loadA (vs := o.cells) rfl (.tmp 4) (by rfl) agg_ropt (by rfl) rfl (St.pick 1 s3).rowAll ?_; clear gg)
    | (go_at_call 5; refine rocheck_yes HC.out s2 ?_; rintro w3 s3; clear s2; obtain ⟨k0, k1, k2, k3, k4⟩ := optRow (St.pick 1 s3))
    | (refine wpl_build rfl rfl (v := .agg (docY o 0).toArray) (by kernel_rfl) ?_)
    | (refine wpl_allocA rfl rfl zero_doc s3 ?_; rintro X w4 s4)
    | (refine wpl_storeA (vs := docY o 0) rfl (.tmp 8) (.tmp 25) (by rfl) agg_doc (by rfl) (by rfl) rfl (docY_one _ _) s4 rfl ?_; rintro w5 s5; clear s3 s4)
    | (go_at_call 30; refine new04_c HS.out s5 ?_; rintro w6 s6; clear s5)
    | (refine wpl_storeQ (t := 49) (vs := two site 0) rfl (.tmp 31) (.tmp 29) 10 rfl agg_rck (by rfl) (by rfl) rfl (two_one _ _) s6 (by simp [docY]) ?_; rintro w7 s7'; have s7 : St W w7 (row X 0 (docY o site) :: row E 0 doc0 :: row T 0 o.cells :: R) := s7'; clear s6 s7'; obtain ⟨k0, k1, k2, k3, k4⟩ := optRow (St.pick 2 s7))
    | (go_at_call 31; refine new11_c HS.out HT.out.1 HT.out.2 s7 ?_; rintro w8 s8; clear s7)
    | (refine wpl_storeQ (t := 46) (vs := graC3 site o.t2 none 0 0) rfl (.tmp 39) (.tmp 37) 6 rfl agg_rgr (by rfl) (by rfl) rfl (graC3_one _ _ _ _ _) s8 (by simp [docY]) ?_; rintro w9 s9'; have s9 : St W w9 (row X 0 (docZ o site) :: row E 0 doc0 :: row T 0 o.cells :: R) := s9'; clear s8 s9'))
  go_loopw [9] (fun ii wr => ii = .int .i64 0 ∧ St W wr (row X 0 (docZ o site) :: row E 0 doc0 :: row T 0 o.cells :: R)) (fun _ _ => 0)
  case atStart => exact ⟨rfl, s9⟩
  case round =>
    obtain ⟨rfl, sr⟩ := hrel
    go_wp2_with (first
      | (refine wpl_loadA (vs := docZ o site) rfl (.tmp 8) (by rfl) agg_doc (by rfl) rfl sr.rowAll ?_)
      | (refine wpl_storeA (vs := docZ o site) rfl (.tmp 6) (.tmp 89) (by rfl) agg_doc (by rfl) (by rfl) rfl (docZ_one _ _) (St.pick 1 sr) rfl ?_; rintro wa sa))
    have hL := run_loadA agg_doc (vs := docZ o site) rfl sa.rowAll
    exact bodyPost_ret (v := .tuple #[.agg (docZ o site).toArray, .int .i64 0]) (by simp [results, Tryz.results12, asAddr, hL]) rfl (HK.out _ (sa.dropN 3))
end
end Go.Proofs.YtpjdcijphnkioaaGreatDoor
