/- Several texts in one (FnLawParts, FnDevOuts, PureQuiet, FnLawQuiet), for the proof of LawChipQuiet. No condition beyond those in each lemma. -/
import Derived.Test.YtolmklnijjfppaaGreatPLawChipQuietK
import Derived.Test.YtolmklnijjfppaaGreatPLawChipQuietJ
namespace Go.Proofs.YtolmklnijjfppaaGreat.Calc
open Go Code
set_option linter.unusedSimpArgs false
set_option linter.unusedVariables false
set_option maxRecDepth 20000
set_option maxHeartbeats 4000000
attribute [local irreducible] WOpsT AW AK RK AKW UK UC
theorem datB_kind (k i : Nat) (a : Int) (l : List Int) (h : 2 ≤ k ∧ k ≤ 8) : VKind (mkChp k i a (datB k i l).1) := by
  unfold mkChp datB
  by_cases h8 : k = 8
  · subst h8
    have r := sval_range l 2 (by decide)
    rw [if_pos rfl]
    exact .drive (1 + (sval l 2).toNat) rfl rfl (by omega) (drvD_len _ _ _) (drvD_bytes _ _ _)
  · rw [if_neg h8]
    by_cases h2 : k = 2
    · subst h2
      have r := sval_range (srest (srest l 256) 256) 3 (by decide)
      rw [if_pos rfl]
      exact .bank (1 + (sval (srest (srest l 256) 256) 3).toNat) rfl rfl (by omega) (by rw [show 8 * (1 + (sval (srest (srest l 256) 256) 3).toNat) = 8 + 8 * (sval (srest (srest l 256) 256) 3).toNat by omega]; exact bytesOf_len _ _) (bytesOf_bytes _ _)
    · rw [if_neg h2]
      exact .dev (by dsimp only; omega) (by dsimp only; rw [Int.toNat_natCast]) rfl
theorem goBd_kind : ∀ (n i : Nat) (a : Int) (cs : List Chp) (ws : List Wir) (l : List Int), (∀ c ∈ cs, VKind c) → (∀ c ∈ (goBd n i a cs ws l).1, VKind c) ∧ (goBd n i a cs ws l).1.length = cs.length + n := by
  intro n
  induction n with
  | zero => intro i a cs ws l h; exact ⟨h, rfl⟩
  | succ n ih =>
    intro i a cs ws l h
    have r := sval_range l 8 (by decide)
    have hk := kdN_r (sval l 8).toNat (by omega)
    unfold goBd
    obtain ⟨h1, h2⟩ := ih (i + 1) (a + ((szN (kdN (sval l 8).toNat) : Int) + 15) / 16 * 16) (cs ++ [(stepBd (kdN (sval l 8).toNat) i a (srest l 8)).1]) (ws ++ (stepBd (kdN (sval l 8).toNat) i a (srest l 8)).2.1) (stepBd (kdN (sval l 8).toNat) i a (srest l 8)).2.2 (by
      intro c hc
      rcases List.mem_append.1 hc with hc | hc
      · exact h c hc
      · simp only [List.mem_singleton] at hc; subst hc
        exact datB_kind _ _ _ _ hk)
    exact ⟨h1, by rw [h2, List.length_append, List.length_singleton]; omega⟩
theorem mkBrd_kinds (l : List Int) : (∀ c ∈ (mkBrd l).chips, VKind c) ∧ 2 ≤ (mkBrd l).chips.length ∧ (mkBrd l).chips.length ≤ 6 := by
  have r := sval_range l 5 (by decide)
  obtain ⟨h1, h2⟩ := goBd_kind (sval l 5).toNat 0 57344 [ramC] [] (srest l 5) (by
    intro c hc; simp only [List.mem_singleton] at hc; subst hc
    exact .mem 768 (.inl rfl) rfl (by decide) (by decide) Bytes.nil)
  obtain ⟨g1, g2, _⟩ := romD_ok (bdOf l).2.2
  refine ⟨fun c hc => ?_, ?_⟩
  · rcases List.mem_append.1 hc with hc | hc
    · exact h1 c hc
    · simp only [List.mem_singleton] at hc; subst hc
      exact .mem 256 (.inr rfl) rfl (by decide) (by show (romD _).length ≤ 256; omega) g2
  · have : (mkBrd l).chips.length = (bdOf l).1.length + 1 := by show ((bdOf l).1 ++ [_]).length = _; rw [List.length_append]; rfl
    rw [this]
    have h3 : (bdOf l).1.length = 1 + (sval l 5).toNat := h2
    omega
theorem DvOk.small {c : Chp} {d : Dv} (h : DvOk c d) : d.1.length ≤ 100000 ∧ d.2.length ≤ 100000 := by
  rcases h with ⟨z, hk, hs, h1, m, hm, hb⟩ | ⟨nb, hk, hs, h1, hd, n, hn, m, hm, hb⟩ | ⟨hk, hs, x, y, e, f, h⟩ | ⟨hk, hs, x, y, z, h⟩ | ⟨hk, hs, s1, l, g, f, o, e, n, z, h⟩ | ⟨hk, hs, p, q, m, h⟩ | ⟨hk, hs, x, y, hx, hy⟩ | ⟨nd, hk, hs, e, m, h⟩
  · exact ⟨Nat.zero_le _, by dsimp only; omega⟩
  · exact ⟨lb, by dsimp only; omega⟩
  · exact ⟨lb, lb⟩
  · exact ⟨lb, lb⟩
  · exact ⟨lb, lb⟩
  · exact ⟨lb, by have := h.len; dsimp only; omega⟩
  · exact ⟨lb, lb⟩
  · exact ⟨lb, by have := h.len; have := h.nd; dsimp only; omega⟩
theorem chips_fact : FnE Tryz.prog 9 [] [] (.c (.bool true)) [] := by
  have hs : Sub (.agg [.c (.string ⟨#[97]⟩), I 0, I 0, I 4, .c (.slice none 0 0)]) (.agg (cR ⟨#[97]⟩ 0 0 4 [])) := by
    refine .agg (Eq.refl _) fun i x y hx hy => ?_
    match i with
    | 0 => cases hx; cases hy; exact .rfl
    | 1 => cases hx; cases hy; exact .rfl
    | 2 => cases hx; cases hy; exact .rfl
    | 3 => cases hx; cases hy; exact .rfl
    | 4 => cases hx; cases hy; exact .nil
    | i + 5 => cases hx
  have h1 := FnE.arg0 (new_m ⟨#[97]⟩ 0 [] 0 4 (.inl rfl) (by decide) (by decide)) hs
  have e1 : cpy (List.replicate 4 0) [] 0 = [0, 0, 0, 0] := by decide
  rw [e1] at h1
  have h2 := FnE.arg0 (chWr0 ⟨#[97]⟩ 0 [] 4 (by decide) [0, 0, 0, 0] rfl 2 (by decide) 9) hs
  have e2 : ([0, 0, 0, 0] : List Int).set (2 : Int).toNat (9 % 256) = [0, 0, 9, 0] := by decide
  rw [e2] at h2
  have h3 := FnE.arg0 (chRd0 ⟨#[97]⟩ 0 [] 0 4 (.inl rfl) (by decide) [0, 0, 9, 0] rfl (by
    intro i
    match i with
    | 0 => decide
    | 1 => decide
    | 2 => decide
    | 3 => decide
    | i + 4 => exact ⟨Int.le_refl 0, by show (0 : Int) < 256; decide⟩) 2 (by decide)) hs
  have e3 : ([0, 0, 9, 0] : List Int).getD (2 : Int).toNat 0 = 9 := by decide
  rw [e3] at h3
  have hn : VName ⟨#[97]⟩ := by
    refine ⟨by decide, ⟨97, rfl, by decide, by decide⟩, ?_⟩
    intro x hx
    have hx : x ∈ [(97 : Int)] := hx
    simp only [List.mem_singleton] at hx
    subst hx; unfold okCh; decide
  have h4 := FnE.arg0 (check_v ⟨⟨#[97]⟩, 0, 0, 4, []⟩ (.mem 4 (.inl rfl) rfl (by decide) (by decide) Bytes.nil) ⟨hn, by decide, by decide, by decide⟩) hs
  refine N.fn Tryz.func9 k9 lb q9 fun Q hQ hQN => ?_
  rw [c9]
  repeat' (first
  | (show WOpsT _ (⟨_, .call _ _, none⟩ :: _) _ _ _ _; first | refine T.call0 e17 rfl (h1) ?_ | refine T.call0 e18 rfl (h2) ?_ | refine T.call0 e33 rfl (h3) ?_ | refine T.call0 e34 rfl (h4) ?_)
  | exact True.intro
  | refine fun (K : KT) hK => ?_
  | intro hcd
  | (refine go1 ?_ ?_ <;> try clear hK K)
  | fail)
  all_goals first
    | exact WS.c rfl rfl
    | exact WS.bool rfl (by decide)
noncomputable def wrV (c : Chp) (a v : Int) (d : Dv) : Dv := open Classical in if h : DvOk c d ∧ 0 ≤ a ∧ a < c.size then (chWrite_ex c d h.1 a v h.2).choose else d
theorem wrV_ok (c : Chp) (d : Dv) (hd : DvOk c d) (a v : Int) (ha : 0 ≤ a ∧ a < c.size) : DvOk c (wrV c a v d) ∧ FnE Tryz.prog 18 [.agg (chV c), .agg (dvC d), I a, I v] [] (.agg (dvC (wrV c a v d))) [] := by
  unfold wrV; rw [dif_pos ⟨hd, ha⟩]; exact (chWrite_ex c d hd a v ha).choose_spec
noncomputable def goUsed (c : Chp) : Nat → Dv → List Int → Dv
  | 0, d, _ => d
  | n + 1, d, l => goUsed c n (skipV c (sval (srest (srest l c.size) 256) 70).toNat (wrV c (sval l c.size) (sval (srest l c.size) 256) d)) (srest (srest (srest l c.size) 256) 70)
theorem VKind.size {c : Chp} (h : VKind c) : 1 ≤ c.size ∧ c.size ≤ 4096 := by
  rcases h with ⟨z, hk, hs, h1, hd, hb⟩ | ⟨nb, hk, hs, h1, hd, hb⟩ | ⟨hk, hs, hd⟩ | ⟨nd, hk, hs, hn, hd, hb⟩
  · omega
  · omega
  · rw [hs]
    rcases hk with h | h | h | h | h <;> rw [h] <;> decide
  · omega
theorem goUsed_ok (c : Chp) (hc : VKind c) : ∀ (n : Nat) (d : Dv) (l : List Int), DvOk c d → DvOk c (goUsed c n d l) := by
  intro n
  induction n with
  | zero => intro d l h; exact h
  | succ n ih =>
    intro d l h
    have hz := hc.size
    have r1 := sval_range l c.size (by omega)
    have r2 := sval_range (srest (srest l c.size) 256) 70 (by decide)
    exact ih _ _ (chSkip_ok c _ (wrV_ok c d h _ _ r1).1 _ (by omega)).1
theorem used_ex (l : List Int) (k : Int) (acts : List Int) (hL0 : acts.length ≤ 4611686018427387904) : ∃ (c : Chp) (d : Dv), DvOk c d ∧ FnE Tryz.prog 5 [.sl 1 (cells l), I k, .sl 1 (cells acts)] [] (.tup [.agg (chV c), .agg (dvC d)]) [] := by
  have hbd := mkBrd_ok l
  obtain ⟨hv, hn2, hn6⟩ := mkBrd_kinds l
  unfold boV at hbd
  generalize mkBrd l = B at *
  obtain ⟨bn, cp, cs, ws⟩ := B
  dsimp only at hbd hv hn2 hn6
  have hb := below_ok k cs.length (by omega) (by omega)
  have hr : 0 ≤ k % (cs.length : Int) ∧ k % (cs.length : Int) < cs.length := ⟨Int.emod_nonneg _ (by omega), Int.emod_lt_of_pos _ (by omega)⟩
  generalize k % (cs.length : Int) = q at *
  have hq : q.toNat < cs.length := by omega
  have hm : (cs.map chV)[q.toNat]? = some (chV cs[q.toNat]) := by rw [List.getElem?_map, List.getElem?_eq_getElem hq]; rfl
  have hc := hv _ (List.getElem_mem hq)
  generalize cs[q.toNat] = c at *
  obtain ⟨d0, hd0, hnew⟩ := chNew_ex c hc
  obtain ⟨ln, hL⟩ : ∃ ln : Nat, acts.length = ln := ⟨_, rfl⟩
  have hfin := goUsed_ok c hc (min (ln / 3) 12) d0 acts hd0
  refine ⟨c, goUsed c (min (ln / 3) 12) d0 acts, hfin, ?_⟩
  generalize hg : goUsed c (min (ln / 3) 12) d0 acts = D at *
  have hz := hc.size
  have hskip := fun d hd (t : Nat) ht => (chSkip_ok c d hd t ht)
  have hwr := wrV_ok c
  have e1 : IntKind.wrap .i64 ((ln : Int).tdiv 3) = ((ln / 3 : Nat) : Int) := by
    rw [Int.tdiv_eq_ediv_of_nonneg (by omega), show (ln : Int) / 3 = ((ln / 3 : Nat) : Int) by omega]; exact wrap64 (by omega) (by omega)
  have e2 : min ((ln / 3 : Nat) : Int) 12 = ((min (ln / 3) 12 : Nat) : Int) := by omega
  generalize hK : min (ln / 3) 12 = K0 at *
  have hK0 : K0 ≤ 12 := by omega
  have hcb : (chV c) = [.c (.string c.name), I c.kind, I c.base, I c.size, .sl 1 (bcells c.data)] := rfl
  refine N.fn Tryz.func5 k5 lb q5 fun Q hQ hQN => ?_
  rw [c5]
  repeat' (first
  | rw [cp_mren]
  | rw [List.length_map]
  | (show WOpsT _ (⟨_, .idx _ _ _ _, none⟩ :: _) _ _ _ _; refine T.idxs rfl rfl rfl (by omega) hm ?_)
  | rw [cells_len]
  | rw [hL]
  | rw [e1]
  | rw [e2]
  | (show WOpsT _ (⟨_, .call _ _, none⟩ :: _) _ _ _ _; first | refine T.call0 e12 rfl (hbd) ?_ | refine T.call0 e7 rfl (hb) ?_ | refine T.call0 e17 rfl (hnew) ?_)
  | exact True.intro
  | refine fun (K : KT) hK => ?_
  | intro hcd
  | (refine go1 ?_ ?_ <;> try clear hK K)
  | fail)
  obtain ⟨nm, kd, bs, sz, dat⟩ := c
  refine N.loop (σ := Nat × Dv × List Int) (fun s => [(6, .ptr 0 1 0 0), (7, .ptr 1 1 0 0), (9, .ptr 2 1 0 0), (10, .ptr 3 1 0 0), (11, .ptr 4 1 0 0), (31, I K0), (32, I s.1)]) (fun s => [⟨1, 5, [[.c (.string ⟨#[]⟩), I 0, I 0, I 0, .c (.slice none 0 0)]]⟩, ⟨1, 2, [[.c (.slice none 0 0), .c (.slice none 0 0)]]⟩, ⟨1, 5, [[.c (.string nm), I kd, I bs, I sz, .sl 1 (bcells dat)]]⟩, ⟨1, 2, [[.sl 1 (cells s.2.1.1), .sl 1 (bcells s.2.1.2)]]⟩, strB s.2.2]) (fun s => s.1 ≤ K0 ∧ DvOk ⟨nm, kd, bs, sz, dat⟩ s.2.1 ∧ goUsed ⟨nm, kd, bs, sz, dat⟩ (K0 - s.1) s.2.1 s.2.2 = D) (fun s => K0 - s.1) (0, d0, acts) ⟨Nat.zero_le _, hd0, hg⟩ (Weaks.gc [0, 1, 3, 4, 5] 1 rfl (by repeat (first | exact trivial | refine ⟨.rfl, ?_⟩ | refine ⟨.any, ?_⟩)) rfl) fun w hi K2 hC => ?_
  obtain ⟨i, d, l2⟩ := w
  obtain ⟨hi, hd, hst⟩ := hi
  dsimp only at hi hd hst hC hz ⊢
  by_cases hil : i < K0
  · rw [show K0 - i = K0 - (i + 1) + 1 by omega] at hst
    unfold goUsed at hst
    dsimp only at hst
    have hx1 := next_ok l2 sz (by omega)
    have r1 := sval_range l2 sz (by omega)
    have hx2 := next_ok (srest l2 sz) 256 (by decide)
    have hx3 := next_ok (srest (srest l2 sz) 256) 70 (by decide)
    have r3 := sval_range (srest (srest l2 sz) 256) 70 (by decide)
    obtain ⟨t, ht⟩ : ∃ t : Nat, sval (srest (srest l2 sz) 256) 70 = (t : Int) := ⟨(sval (srest (srest l2 sz) 256) 70).toNat, by omega⟩
    rw [ht] at hx3 r3
    rw [ht, Int.toNat_natCast] at hst
    obtain ⟨hd1, hw⟩ := hwr d hd (sval l2 sz) (sval (srest l2 sz) 256) r1
    generalize srest (srest (srest l2 sz) 256) 70 = l5 at *
    generalize srest (srest l2 sz) 256 = l4 at *
    generalize sval (srest l2 sz) 256 = v2 at *
    generalize srest l2 sz = l3 at *
    generalize sval l2 sz = v1 at *
    generalize wrV ⟨nm, kd, bs, sz, dat⟩ v1 v2 d = d1 at *
    obtain ⟨hd2, hk⟩ := hskip d1 hd1 t (by omega)
    generalize skipV ⟨nm, kd, bs, sz, dat⟩ t d1 = d2 at *
    have hw : FnE Tryz.prog 18 [.agg [.c (.string nm), I kd, I bs, I sz, .sl 1 (bcells dat)], .agg [.sl 1 (cells d.1), .sl 1 (bcells d.2)], I v1, I v2] [] (.agg [.sl 1 (cells d1.1), .sl 1 (bcells d1.2)]) [] := hw
    have hk : FnE Tryz.prog 6 [.agg [.c (.string nm), I kd, I bs, I sz, .sl 1 (bcells dat)], .agg [.sl 1 (cells d1.1), .sl 1 (bcells d1.2)], I t] [] (.agg [.sl 1 (cells d2.1), .sl 1 (bcells d2.2)]) [] := hk
    repeat' (first
    | (show WOpsT _ (⟨_, .call _ _, none⟩ :: _) _ _ _ _; first | refine T.call1 4 e19 rfl rfl (hx1) ?_ | refine T.call1 4 e19 rfl rfl (hx2) ?_ | refine T.call1 4 e19 rfl rfl (hx3) ?_ | refine T.call0 e18 rfl (hw) ?_ | refine T.call0 e6 rfl (hk) ?_)
    | exact True.intro
    | refine fun (K : KT) hK => ?_
    | intro hcd
    | (refine go1 ?_ ?_ <;> try clear hK K)
    | fail)
    exact hC _ _ (i + 1, d2, l5) ⟨by dsimp only; omega, hd2, hst⟩ (by dsimp only; omega) (Weaks.gc [0, 1, 2, 3, 4] 1 rfl (by repeat (first | exact trivial | refine ⟨.rfl, ?_⟩ | refine ⟨.any, ?_⟩)) rfl)
  · obtain rfl : i = K0 := by omega
    rw [Nat.sub_self] at hst
    unfold goUsed at hst
    subst hst
    repeat' (first
    | exact True.intro
    | refine fun (K : KT) hK => ?_
    | intro hcd
    | (refine go1 ?_ ?_ <;> try clear hK K)
    | fail)
    exact WS.drop (n := 1) rfl rfl
end Go.Proofs.YtolmklnijjfppaaGreat.Calc

namespace Go.Proofs.YtolmklnijjfppaaGreat.Calc
open Go Code
set_option linter.unusedSimpArgs false
set_option linter.unusedVariables false
set_option maxRecDepth 20000
set_option maxHeartbeats 4000000
attribute [local irreducible] WOpsT AW AK RK AKW UK UC
theorem sernext_ok (s l g f o c n z : Int) (m : List Int) (h : SerOk s l g f o c n z) : FnE Tryz.prog 29 [dev [s, l, g, f, o, c, n, z] m] [] (I (if l = 0 then 100000 else l - 1)) [] := by
  refine N.fn Tryz.func29 k29 lb q29 fun Q hQ hQN => ?_
  rw [c29]
  repeat' (first
  | refine T.callN e69 rfl (serfit _ _ _ _ _ _ _ _ _ h) (by simp) ?_
  | exact True.intro
  | refine fun (K : KT) hK => ?_
  | intro hcd
  | (refine go1 ?_ ?_ <;> try clear hK K)
  | fail)
  · exact WS.c rfl (by rw [if_pos (by assumption)])
  · exact WS.c rfl (by rw [if_neg (by assumption)])
theorem sndnext_ok (x y : Vo) (m : List Int) (hx : x.Ok) (hy : y.Ok) : FnE Tryz.prog 31 [dev (vo2 x y) m] [] (I (min x.quiet y.quiet)) [] := by
  refine N.fn Tryz.func31 k31 lb q31 fun Q hQ hQN => ?_
  rw [c31]
  repeat' (first
  | (show WOpsT _ (⟨_, .call _ _, none⟩ :: _) _ _ _ _; first | refine T.callN e73 rfl (sndfit x y m hx hy) (by simp) ?_ | refine T.callQ [1] e74 rfl ((quiet0_ok x y hx)) (by first | rfl | exact pasH_nil | (unfold pasH; simp only [List.map]; (repeat' (first | rfl | exact pasB_bytes | exact pasB_ints | exact pasB_flat | refine consE ?_ ?_)); done) | simp [pasH, pasB, cells_pas, bcells_pas]) rfl rfl rfl (by first | rfl | ((repeat' (first | rfl | exact renB_bytes | exact renB_ints | exact renB_flat | refine consE ?_ ?_)); done) | simp [renB, cells_ren, bcells_ren]) ?_ | refine T.callQ [1] e74 rfl ((quiet1_ok y x hy)) (by first | rfl | exact pasH_nil | (unfold pasH; simp only [List.map]; (repeat' (first | rfl | exact pasB_bytes | exact pasB_ints | exact pasB_flat | refine consE ?_ ?_)); done) | simp [pasH, pasB, cells_pas, bcells_pas]) rfl rfl rfl (by first | rfl | ((repeat' (first | rfl | exact renB_bytes | exact renB_ints | exact renB_flat | refine consE ?_ ?_)); done) | simp [renB, cells_ren, bcells_ren]) ?_)
  | exact True.intro
  | refine fun (K : KT) hK => ?_
  | intro hcd
  | (refine go1 ?_ ?_ <;> try clear hK K)
  | fail)
  exact WS.c rfl rfl
theorem sndout_ok (x y : Vo) (m : List Int) (hx : x.Ok) (hy : y.Ok) : FnE Tryz.prog 38 [dev (vo2 x y) m] [] (I (x.v * x.f + y.v * y.f)) [] := by
  have hx' := hx
  have hy' := hy
  unfold Vo.Ok at hx' hy'
  have b1 : 0 ≤ x.v * x.f ∧ x.v * x.f ≤ 15 := by
    have : x.f = 0 ∨ x.f = 1 := by omega
    rcases this with h | h <;> rw [h] <;> omega
  have b2 : 0 ≤ y.v * y.f ∧ y.v * y.f ≤ 15 := by
    have : y.f = 0 ∨ y.f = 1 := by omega
    rcases this with h | h <;> rw [h] <;> omega
  refine N.fn Tryz.func38 k38 lb q38 fun Q hQ hQN => ?_
  rw [c38]
  repeat' (first
  | refine T.callN e73 rfl (sndfit x y m hx hy) (by simp) ?_
  | exact True.intro
  | refine fun (K : KT) hK => ?_
  | intro hcd
  | (refine go1 ?_ ?_ <;> try clear hK K)
  | fail)
  exact WS.c rfl rfl
theorem drvnext_ok (a : Dr) (m : List Int) (nd : Nat) (H : a.Ok m nd) : FnE Tryz.prog 32 [dev (dr10 a) m] [] (I (if a.c = 0 then 100000 else max 1 a.l - 1)) [] := by
  have hl := H.l
  refine N.fn Tryz.func32 k32 lb q32 fun Q hQ hQN => ?_
  rw [c32]
  repeat' (first
  | refine T.callN e76 rfl (drvfit a m nd H) (by simp) ?_
  | exact True.intro
  | refine fun (K : KT) hK => ?_
  | intro hcd
  | (refine go1 ?_ ?_ <;> try clear hK K)
  | fail)
  · exact WS.c rfl (by rw [if_pos (by assumption)])
  · exact WS.c rfl (by rw [if_neg (by assumption)])
theorem drvirq_ok (a : Dr) (m : List Int) (nd : Nat) (H : a.Ok m nd) : FnE Tryz.prog 42 [dev (dr10 a) m] [] (.c (.bool (decide (a.x = 1 ∧ a.r = 1)))) [] := by
  refine N.fn Tryz.func42 k42 lb q42 fun Q hQ hQN => ?_
  rw [c42]
  repeat' (first
  | refine T.callN e76 rfl (drvfit a m nd H) (by simp) ?_
  | exact True.intro
  | refine fun (K : KT) hK => ?_
  | intro hcd
  | (refine go1 ?_ ?_ <;> try clear hK K)
  | fail)
  all_goals (refine WS.bool rfl ?_; simp only [decide_eq_true_eq, Bool.false_eq_true, false_iff, true_iff] <;> omega)
end Go.Proofs.YtolmklnijjfppaaGreat.Calc

namespace Go.Proofs.YtolmklnijjfppaaGreat.Calc
open Go
set_option linter.unusedVariables false
set_option linter.unusedSimpArgs false
theorem Vo.quiet_keeps (x : Vo) (h : x.Ok) (j : Nat) (hj : (j : Int) ≤ x.quiet) : (Vo.ticks j x).v = x.v ∧ (Vo.ticks j x).f = x.f := by
  cases j with
  | zero => exact ⟨rfl, rfl⟩
  | succ j =>
    rw [← x.pass_ticks j (by omega)]
    obtain ⟨p, v, r, c, f, w⟩ := x
    unfold Vo.quiet at hj
    unfold Vo.pass
    dsimp only at *
    constructor
    · split
      · rename_i hr
        rw [if_pos hr] at hj
        split
        · exfalso
          split at hj <;> omega
        · rfl
      · rfl
    · split
      · rename_i hp
        rw [if_pos hp] at hj
        split
        · exfalso
          split at hj <;> omega
        · rfl
      · rfl
theorem ser_keeps (s l g f o c n z : Int) (h : SerOk s l g f o c n z) (j : Nat) (hj : (j : Int) ≤ (if l = 0 then 100000 else l - 1)) : ∃ l' : Int, serSkip s l g f o c n z j = [s, l', g, f, o, c, n, z] ∧ (l' = 0 ↔ l = 0) ∧ 0 ≤ l' ∧ l' ≤ l := by
  unfold serSkip
  by_cases h0 : (j : Int) ≤ 0 ∨ l = 0
  · rw [if_pos h0]; exact ⟨l, rfl, .rfl, h.2.1.1, Int.le_refl _⟩
  · rw [if_neg h0]
    rw [if_neg (by omega)] at hj
    rw [if_pos (by omega)]
    exact ⟨l - j, rfl, by omega, by omega, by omega⟩
theorem tim_keeps (x y a f : Int) (h : TimOk x y a f) (j : Nat) (hj : (j : Int) ≤ (if a % 2 = 0 then 100000 else x)) : ∃ x' : Int, skip4 x y a f j = [x', y, a, f] ∧ 0 ≤ x' ∧ x' ≤ x := by
  unfold skip4
  by_cases h0 : (j : Int) ≤ 0
  · rw [if_pos h0]; exact ⟨x, rfl, by omega, by omega⟩
  · rw [if_neg h0]
    by_cases h1 : a % 2 = 0
    · rw [if_pos h1]; exact ⟨x, rfl, by omega, by omega⟩
    · rw [if_neg h1] at hj ⊢
      rw [if_pos hj]; exact ⟨x - j, rfl, by omega, by omega⟩
theorem vid_keeps (m : List Int) (p n : Int) (hp : 0 ≤ p ∧ p < 2560) (hn : NextOf m p n) (j : Nat) (hj : (j : Int) ≤ n) : vcol m (vpos p j) = vcol m p := by
  have h0 : vpos p 0 = p := by unfold vpos; omega
  rcases hn with ⟨hn, h⟩ | ⟨h1, h2, h, h3⟩
  · have e : vpos p j = vpos p (j % 2560) := by unfold vpos; omega
    rw [e]
    have hlt : j % 2560 < 2560 := Nat.mod_lt _ (by decide)
    generalize j % 2560 = i at hlt
    cases i with
    | zero => rw [h0]
    | succ i => exact h i (by omega)
  · cases j with
    | zero => rw [h0]
    | succ j => exact h j (by omega)
theorem Dr.keeps (a : Dr) (m : List Int) (hl : 0 ≤ a.l) (j : Nat) (hj : (j : Int) ≤ (if a.c = 0 then 100000 else max 1 a.l - 1)) (hc : 0 ≤ a.c) : (Dr.skip j j a m).1.t = a.t ∧ (Dr.skip j j a m).1.x = a.x ∧ (Dr.skip j j a m).1.r = a.r := by
  cases j with
  | zero => exact ⟨rfl, rfl, rfl⟩
  | succ j =>
    simp only [Dr.skip]
    by_cases h0 : a.c ≤ 0
    · rw [if_pos (.inr h0)]; exact ⟨rfl, rfl, rfl⟩
    · rw [if_neg (by omega)] at hj
      rw [if_neg (by omega)]
      by_cases h3 : 3 ≤ a.c ∧ a.k = 0
      · rw [if_pos h3]; exact ⟨rfl, rfl, rfl⟩
      · rw [if_neg h3, if_pos (by omega)]; exact ⟨rfl, rfl, rfl⟩
end Go.Proofs.YtolmklnijjfppaaGreat.Calc

namespace Go.Proofs.YtolmklnijjfppaaGreat.Calc
open Go Code
set_option linter.unusedSimpArgs false
set_option linter.unusedVariables false
set_option maxRecDepth 20000
set_option maxHeartbeats 4000000
attribute [local irreducible] WOpsT AW AK RK AKW UK UC
theorem chQuiet_ex (c : Chp) (d : Dv) (hd : DvOk c d) : ∃ (n o : Int) (q : Bool), 0 ≤ n ∧ n ≤ 100000 ∧ FnE Tryz.prog 8 [.agg (chV c), .agg (dvC d)] [] (I n) [] ∧ FnE Tryz.prog 10 [.agg (chV c), .agg (dvC d)] [] (I o) [] ∧ FnE Tryz.prog 11 [.agg (chV c), .agg (dvC d)] [] (.c (.bool q)) [] ∧ ∀ j : Nat, (j : Int) ≤ n → FnE Tryz.prog 10 [.agg (chV c), .agg (dvC (skipV c j d))] [] (I o) [] ∧ FnE Tryz.prog 11 [.agg (chV c), .agg (dvC (skipV c j d))] [] (.c (.bool q)) [] := by
  obtain ⟨nm, k, b, s, dat⟩ := c
  rcases hd with ⟨z, hk, hs, h1, m, hm, hb⟩ | ⟨nb, hk, hs, h1, hd, n, hn, m, hm, hb⟩ | ⟨hk, hs, x, y, e, f, h⟩ | ⟨hk, hs, x, y, z, h⟩ | ⟨hk, hs, s1, l, g, f, o, e, n, z, h⟩ | ⟨hk, hs, p, q, m, h⟩ | ⟨hk, hs, x, y, hx, hy⟩ | ⟨nd, hk, hs, e, m, h⟩
  all_goals dsimp only at hk hs; subst hs
  · have e (j : Nat) : skipV ⟨nm, k, b, z, dat⟩ j ([], m) = ([], m) := by unfold skipV; dsimp only; rcases hk with rfl | rfl <;> rfl
    refine ⟨100000, 0, false, by decide, by decide, chNx0 nm b z dat k (by omega), chOt0 nm b z dat k (by omega), chIq0 nm b z dat k (by omega), fun j _ => ?_⟩
    rw [e]
    exact ⟨chOt0 nm b z dat k (by omega), chIq0 nm b z dat k (by omega)⟩
  · subst hk
    exact ⟨100000, 0, false, by decide, by decide, chNx0 nm b 9 dat 2 (by decide), chOt0 nm b 9 dat 2 (by decide), chIq0 nm b 9 dat 2 (by decide), fun j _ => ⟨chOt0 nm b 9 dat 2 (by decide), chIq0 nm b 9 dat 2 (by decide)⟩⟩
  · subst hk
    refine ⟨_, 0, _, ?_, ?_, chNx3 nm b 4 dat (timnext_ok x y e f [] h), chOt0 nm b 4 dat 3 (by decide), chIq3 nm b 4 dat (timirq_ok x y e f [] h), fun j hj => ?_⟩
    · split <;> omega
    · split <;> omega
    · obtain ⟨x', he, h2, h3⟩ := tim_keeps x y e f h j hj
      have es : skipV ⟨nm, 3, b, 4, dat⟩ j ([x, y, e, f], []) = ([x', y, e, f], []) := by
        show (skip4 x y e f j, []) = _
        rw [he]
      rw [es]
      exact ⟨chOt0 nm b 4 dat 3 (by decide), chIq3 nm b 4 dat (timirq_ok x' y e f [] (by omega))⟩
  · subst hk
    have h1 := chOt4 nm b 2 dat (prtout x y z [] h)
    have h2 : FnE Tryz.prog 11 [.agg (cR nm 4 b 2 dat), dev [x, y, z] []] [] (.c (.bool false)) [] := chIq0 nm b 2 dat 4 (by decide)
    exact ⟨100000, _, false, by decide, by decide, chNx4 nm b 2 dat, h1, h2, fun j _ => ⟨h1, h2⟩⟩
  · subst hk
    refine ⟨_, _, _, ?_, ?_, chNx5 nm b 3 dat (sernext_ok s1 l g f o e n z [] h), chOt5 nm b 3 dat (serout_ok s1 l g f o e n z [] h), chIq5 nm b 3 dat (serirq_ok s1 l g f o e n z [] h), fun j hj => ?_⟩
    · split <;> omega
    · split <;> omega
    · obtain ⟨l', he, h2, h3, h4⟩ := ser_keeps s1 l g f o e n z h j hj
      have es : skipV ⟨nm, 5, b, 3, dat⟩ j ([s1, l, g, f, o, e, n, z], []) = ([s1, l', g, f, o, e, n, z], []) := by
        show (serSkip s1 l g f o e n z j, []) = _
        rw [he]
      rw [es]
      have hO : SerOk s1 l' g f o e n z := by omega
      have hq : decide ((e % 2 = 1 ∧ f = 1) ∨ (2 ≤ e ∧ l = 0)) = decide ((e % 2 = 1 ∧ f = 1) ∨ (2 ≤ e ∧ l' = 0)) := by
        apply Bool.eq_iff_iff.2; simp only [decide_eq_true_eq]; omega
      rw [hq]
      exact ⟨chOt5 nm b 3 dat (serout_ok s1 l' g f o e n z [] hO), chIq5 nm b 3 dat (serirq_ok s1 l' g f o e n z [] hO)⟩
  · subst hk
    obtain ⟨n, hn⟩ := nextOf m p
    refine ⟨n, _, false, ?_, ?_, chNx6 nm b 32 dat (vidnext_ok p q n m h hn), chOt6 nm b 32 dat (vidout_ok p q m h), chIq0 nm b 32 dat 6 (by decide), fun j hj => ?_⟩
    · rcases hn with hn | hn <;> omega
    · rcases hn with hn | hn <;> omega
    · have hO : VidOk (vpos p j) (vhitN m p q j) m := ⟨vpos_lt _ _, vhitN_lt _ _ _ h.hit _, h.len, h.mem⟩
      rw [← vid_keeps m p n h.pos hn j hj]
      exact ⟨chOt6 nm b 32 dat (vidout_ok _ _ m hO), chIq0 nm b 32 dat 6 (by decide)⟩
  · subst hk
    have hq1 := x.quiet_le hx
    have hq2 := y.quiet_le hy
    refine ⟨_, _, false, ?_, ?_, chNx7 nm b 8 dat (sndnext_ok x y [] hx hy), chOt7 nm b 8 dat (sndout_ok x y [] hx hy), chIq0 nm b 8 dat 7 (by decide), fun j hj => ?_⟩
    · omega
    · omega
    · obtain ⟨e1, e2⟩ := x.quiet_keeps hx j (by omega)
      obtain ⟨e3, e4⟩ := y.quiet_keeps hy j (by omega)
      rw [← e1, ← e2, ← e3, ← e4]
      exact ⟨chOt7 nm b 8 dat (sndout_ok _ _ [] (Vo.ticks_ok _ hx _) (Vo.ticks_ok _ hy _)), chIq0 nm b 8 dat 7 (by decide)⟩
  · subst hk
    have hc := h.c
    have hl := h.l
    refine ⟨_, _, _, ?_, ?_, chNx8 nm b 4 dat (drvnext_ok e m nd h), chOt8 nm b 4 dat (drvout e m nd h), chIq8 nm b 4 dat (drvirq_ok e m nd h), fun j hj => ?_⟩
    · split <;> omega
    · split <;> omega
    · obtain ⟨e1, e2, e3⟩ := Dr.keeps e m hl.1 j hj hc.1
      rw [← e1, ← e2, ← e3]
      exact ⟨chOt8 nm b 4 dat (drvout _ _ nd (Dr.skip_ok _ _ _ _ _ h)), chIq8 nm b 4 dat (drvirq_ok _ _ nd (Dr.skip_ok _ _ _ _ _ h))⟩
theorem quiet_ok (l : List Int) (k : Int) (acts : List Int) (j : Int) (hL0 : acts.length ≤ 4611686018427387904) : FnE Tryz.prog 3 [.sl 1 (cells l), I k, .sl 1 (cells acts), I j] [] (.c (.bool true)) [] := by
  obtain ⟨c, d, hd, hu⟩ := used_ex l k acts hL0
  have hch := chips_fact
  obtain ⟨n, o, q, hn0, hn1, h1, h2, h3, h4⟩ := chQuiet_ex c d hd
  have hb := below_ok j (min n 3000 + 1) (by omega) (by omega)
  have hr1 := Int.emod_nonneg j (show min n 3000 + 1 ≠ 0 by omega)
  have hr2 := Int.emod_lt_of_pos j (show 0 < min n 3000 + 1 by omega)
  obtain ⟨t, ht⟩ : ∃ t : Nat, j % (min n 3000 + 1) = (t : Int) := ⟨(j % (min n 3000 + 1)).toNat, by omega⟩
  rw [ht] at hb hr2
  obtain ⟨hd2, h5⟩ := chSkip_ok c d hd t (by omega)
  obtain ⟨h6, h7⟩ := h4 t (by omega)
  generalize skipV c t d = d2 at *
  obtain ⟨nm, kd, bs, sz, dat⟩ := c
  obtain ⟨d0, m0⟩ := d
  obtain ⟨d3, m3⟩ := d2
  have hu : FnE Tryz.prog 5 [.sl 1 (cells l), I k, .sl 1 (cells acts)] [] (.tup [.agg [.c (.string nm), I kd, I bs, I sz, .sl 1 (bcells dat)], .agg [.sl 1 (cells d0), .sl 1 (bcells m0)]]) [] := hu
  have h1 : FnE Tryz.prog 8 [.agg [.c (.string nm), I kd, I bs, I sz, .sl 1 (bcells dat)], .agg [.sl 1 (cells d0), .sl 1 (bcells m0)]] [] (I n) [] := h1
  have h2 : FnE Tryz.prog 10 [.agg [.c (.string nm), I kd, I bs, I sz, .sl 1 (bcells dat)], .agg [.sl 1 (cells d0), .sl 1 (bcells m0)]] [] (I o) [] := h2
  have h3 : FnE Tryz.prog 11 [.agg [.c (.string nm), I kd, I bs, I sz, .sl 1 (bcells dat)], .agg [.sl 1 (cells d0), .sl 1 (bcells m0)]] [] (.c (.bool q)) [] := h3
  have h5 : FnE Tryz.prog 6 [.agg [.c (.string nm), I kd, I bs, I sz, .sl 1 (bcells dat)], .agg [.sl 1 (cells d0), .sl 1 (bcells m0)], I t] [] (.agg [.sl 1 (cells d3), .sl 1 (bcells m3)]) [] := h5
  have h6 : FnE Tryz.prog 10 [.agg [.c (.string nm), I kd, I bs, I sz, .sl 1 (bcells dat)], .agg [.sl 1 (cells d3), .sl 1 (bcells m3)]] [] (I o) [] := h6
  have h7 : FnE Tryz.prog 11 [.agg [.c (.string nm), I kd, I bs, I sz, .sl 1 (bcells dat)], .agg [.sl 1 (cells d3), .sl 1 (bcells m3)]] [] (.c (.bool q)) [] := h7
  clear h4
  cases q
  all_goals
    refine N.fn Tryz.func3 k3 lb q3 fun Q hQ hQN => ?_
    rw [c3]
    repeat' (first
    | (show WOpsT _ (⟨_, .call _ _, none⟩ :: _) _ _ _ _; first | refine T.call0 e5 rfl (hu) ?_ | refine T.call0 e9 rfl (hch) ?_ | refine T.call0 e7 rfl (hb) ?_ | refine T.call0 e6 rfl (h5) ?_ | refine T.call0 e8 rfl (h1) ?_ | refine T.call0 e10 rfl (h2) ?_ | refine T.call0 e10 rfl (h6) ?_ | refine T.call0 e11 rfl (h3) ?_ | refine T.call0 e11 rfl (h7) ?_)
    | exact True.intro
    | refine fun (K : KT) hK => ?_
    | intro hcd
    | (refine go1 ?_ ?_ <;> try clear hK K)
    | fail)
    all_goals first
      | exact WS.c rfl rfl
      | exact WS.bool rfl (by decide)
end Go.Proofs.YtolmklnijjfppaaGreat.Calc

