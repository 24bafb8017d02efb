/- Several texts in one (FnLawParts), for the proof of LawChipParts. No condition beyond those in each lemma. -/
import Derived.Test.YtolmklnijjfppaaPLawChipPartsK
namespace Go.Proofs.Ytolmklnijjfppaa.Calc
open Go Code
set_option linter.unusedSimpArgs false
set_option linter.unusedVariables false
set_option maxRecDepth 20000
set_option maxHeartbeats 4000000
attribute [local irreducible] WOpsT AW AK RK AKW UK UC
theorem datB_kind (k i : Nat) (a : Int) (l : List Int) (h : 2 ≤ k ∧ k ≤ 8) : VKind (mkChp k i a (datB k i l).1) := by
  unfold mkChp datB
  by_cases h8 : k = 8
  · subst h8
    have r := sval_range l 2 (by decide)
    rw [if_pos rfl]
    exact .drive (1 + (sval l 2).toNat) rfl rfl (by omega) (drvD_len _ _ _) (drvD_bytes _ _ _)
  · rw [if_neg h8]
    by_cases h2 : k = 2
    · subst h2
      have r := sval_range (srest (srest l 256) 256) 3 (by decide)
      rw [if_pos rfl]
      exact .bank (1 + (sval (srest (srest l 256) 256) 3).toNat) rfl rfl (by omega) (by rw [show 8 * (1 + (sval (srest (srest l 256) 256) 3).toNat) = 8 + 8 * (sval (srest (srest l 256) 256) 3).toNat by omega]; exact bytesOf_len _ _) (bytesOf_bytes _ _)
    · rw [if_neg h2]
      exact .dev (by dsimp only; omega) (by dsimp only; rw [Int.toNat_natCast]) rfl
theorem goBd_kind : ∀ (n i : Nat) (a : Int) (cs : List Chp) (ws : List Wir) (l : List Int), (∀ c ∈ cs, VKind c) → (∀ c ∈ (goBd n i a cs ws l).1, VKind c) ∧ (goBd n i a cs ws l).1.length = cs.length + n := by
  intro n
  induction n with
  | zero => intro i a cs ws l h; exact ⟨h, rfl⟩
  | succ n ih =>
    intro i a cs ws l h
    have r := sval_range l 8 (by decide)
    have hk := kdN_r (sval l 8).toNat (by omega)
    unfold goBd
    obtain ⟨h1, h2⟩ := ih (i + 1) (a + ((szN (kdN (sval l 8).toNat) : Int) + 15) / 16 * 16) (cs ++ [(stepBd (kdN (sval l 8).toNat) i a (srest l 8)).1]) (ws ++ (stepBd (kdN (sval l 8).toNat) i a (srest l 8)).2.1) (stepBd (kdN (sval l 8).toNat) i a (srest l 8)).2.2 (by
      intro c hc
      rcases List.mem_append.1 hc with hc | hc
      · exact h c hc
      · simp only [List.mem_singleton] at hc; subst hc
        exact datB_kind _ _ _ _ hk)
    exact ⟨h1, by rw [h2, List.length_append, List.length_singleton]; omega⟩
theorem mkBrd_kinds (l : List Int) : (∀ c ∈ (mkBrd l).chips, VKind c) ∧ 2 ≤ (mkBrd l).chips.length ∧ (mkBrd l).chips.length ≤ 6 := by
  have r := sval_range l 5 (by decide)
  obtain ⟨h1, h2⟩ := goBd_kind (sval l 5).toNat 0 57344 [ramC] [] (srest l 5) (by
    intro c hc; simp only [List.mem_singleton] at hc; subst hc
    exact .mem 768 (.inl rfl) rfl (by decide) (by decide) Bytes.nil)
  obtain ⟨g1, g2, _⟩ := romD_ok (bdOf l).2.2
  refine ⟨fun c hc => ?_, ?_⟩
  · rcases List.mem_append.1 hc with hc | hc
    · exact h1 c hc
    · simp only [List.mem_singleton] at hc; subst hc
      exact .mem 256 (.inr rfl) rfl (by decide) (by show (romD _).length ≤ 256; omega) g2
  · have : (mkBrd l).chips.length = (bdOf l).1.length + 1 := by show ((bdOf l).1 ++ [_]).length = _; rw [List.length_append]; rfl
    rw [this]
    have h3 : (bdOf l).1.length = 1 + (sval l 5).toNat := h2
    omega
theorem DvOk.small {c : Chp} {d : Dv} (h : DvOk c d) : d.1.length ≤ 100000 ∧ d.2.length ≤ 100000 := by
  rcases h with ⟨z, hk, hs, h1, m, hm, hb⟩ | ⟨nb, hk, hs, h1, hd, n, hn, m, hm, hb⟩ | ⟨hk, hs, x, y, e, f, h⟩ | ⟨hk, hs, x, y, z, h⟩ | ⟨hk, hs, s1, l, g, f, o, e, n, z, h⟩ | ⟨hk, hs, p, q, m, h⟩ | ⟨hk, hs, x, y, hx, hy⟩ | ⟨nd, hk, hs, e, m, h⟩
  · exact ⟨Nat.zero_le _, by dsimp only; omega⟩
  · exact ⟨lb, by dsimp only; omega⟩
  · exact ⟨lb, lb⟩
  · exact ⟨lb, lb⟩
  · exact ⟨lb, lb⟩
  · exact ⟨lb, by have := h.len; dsimp only; omega⟩
  · exact ⟨lb, lb⟩
  · exact ⟨lb, by have := h.len; have := h.nd; dsimp only; omega⟩
theorem chips_fact : FnE Try.prog 30 [] [] (.c (.bool true)) [] := by
  have hs : Sub (.agg [.c (.string ⟨#[97]⟩), I 0, I 0, I 4, .c (.slice none 0 0)]) (.agg (cR ⟨#[97]⟩ 0 0 4 [])) := by
    refine .agg (Eq.refl _) fun i x y hx hy => ?_
    match i with
    | 0 => cases hx; cases hy; exact .rfl
    | 1 => cases hx; cases hy; exact .rfl
    | 2 => cases hx; cases hy; exact .rfl
    | 3 => cases hx; cases hy; exact .rfl
    | 4 => cases hx; cases hy; exact .nil
    | i + 5 => cases hx
  have h1 := FnE.arg0 (new_m ⟨#[97]⟩ 0 [] 0 4 (.inl rfl) (by decide) (by decide)) hs
  have e1 : cpy (List.replicate 4 0) [] 0 = [0, 0, 0, 0] := by decide
  rw [e1] at h1
  have h2 := FnE.arg0 (chWr0 ⟨#[97]⟩ 0 [] 4 (by decide) [0, 0, 0, 0] rfl 2 (by decide) 9) hs
  have e2 : ([0, 0, 0, 0] : List Int).set (2 : Int).toNat (9 % 256) = [0, 0, 9, 0] := by decide
  rw [e2] at h2
  have h3 := FnE.arg0 (chRd0 ⟨#[97]⟩ 0 [] 0 4 (.inl rfl) (by decide) [0, 0, 9, 0] rfl (by
    intro i
    match i with
    | 0 => decide
    | 1 => decide
    | 2 => decide
    | 3 => decide
    | i + 4 => exact ⟨Int.le_refl 0, by show (0 : Int) < 256; decide⟩) 2 (by decide)) hs
  have e3 : ([0, 0, 9, 0] : List Int).getD (2 : Int).toNat 0 = 9 := by decide
  rw [e3] at h3
  have hn : VName ⟨#[97]⟩ := by
    refine ⟨by decide, ⟨97, rfl, by decide, by decide⟩, ?_⟩
    intro x hx
    have hx : x ∈ [(97 : Int)] := hx
    simp only [List.mem_singleton] at hx
    subst hx; unfold okCh; decide
  have h4 := FnE.arg0 (check_v ⟨⟨#[97]⟩, 0, 0, 4, []⟩ (.mem 4 (.inl rfl) rfl (by decide) (by decide) Bytes.nil) ⟨hn, by decide, by decide, by decide⟩) hs
  refine N.fn Try.func30 k30 lb q30 fun Q hQ hQN => ?_
  rw [c30]
  repeat' (first
  | (show WOpsT _ (⟨_, .call _ _, none⟩ :: _) _ _ _ _; first | refine T.call0 e61 rfl (h1) ?_ | refine T.call0 e62 rfl (h2) ?_ | refine T.call0 e71 rfl (h3) ?_ | refine T.call0 e49 rfl (h4) ?_)
  | exact True.intro
  | refine fun (K : KT) hK => ?_
  | intro hcd
  | (refine go1 ?_ ?_ <;> try clear hK K)
  | fail)
  all_goals first
    | exact WS.c rfl rfl
    | exact WS.bool rfl (by decide)
noncomputable def wrV (c : Chp) (a v : Int) (d : Dv) : Dv := open Classical in if h : DvOk c d ∧ 0 ≤ a ∧ a < c.size then (chWrite_ex c d h.1 a v h.2).choose else d
theorem wrV_ok (c : Chp) (d : Dv) (hd : DvOk c d) (a v : Int) (ha : 0 ≤ a ∧ a < c.size) : DvOk c (wrV c a v d) ∧ FnE Try.prog 62 [.agg (chV c), .agg (dvC d), I a, I v] [] (.agg (dvC (wrV c a v d))) [] := by
  unfold wrV; rw [dif_pos ⟨hd, ha⟩]; exact (chWrite_ex c d hd a v ha).choose_spec
noncomputable def goUsed (c : Chp) : Nat → Dv → List Int → Dv
  | 0, d, _ => d
  | n + 1, d, l => goUsed c n (skipV c (sval (srest (srest l c.size) 256) 70).toNat (wrV c (sval l c.size) (sval (srest l c.size) 256) d)) (srest (srest (srest l c.size) 256) 70)
theorem VKind.size {c : Chp} (h : VKind c) : 1 ≤ c.size ∧ c.size ≤ 4096 := by
  rcases h with ⟨z, hk, hs, h1, hd, hb⟩ | ⟨nb, hk, hs, h1, hd, hb⟩ | ⟨hk, hs, hd⟩ | ⟨nd, hk, hs, hn, hd, hb⟩
  · omega
  · omega
  · rw [hs]
    rcases hk with h | h | h | h | h <;> rw [h] <;> decide
  · omega
theorem goUsed_ok (c : Chp) (hc : VKind c) : ∀ (n : Nat) (d : Dv) (l : List Int), DvOk c d → DvOk c (goUsed c n d l) := by
  intro n
  induction n with
  | zero => intro d l h; exact h
  | succ n ih =>
    intro d l h
    have hz := hc.size
    have r1 := sval_range l c.size (by omega)
    have r2 := sval_range (srest (srest l c.size) 256) 70 (by decide)
    exact ih _ _ (chSkip_ok c _ (wrV_ok c d h _ _ r1).1 _ (by omega)).1
theorem used_ex (l : List Int) (k : Int) (acts : List Int) (hL0 : acts.length ≤ 4611686018427387904) : ∃ (c : Chp) (d : Dv), DvOk c d ∧ FnE Try.prog 28 [.sl 1 (cells l), I k, .sl 1 (cells acts)] [] (.tup [.agg (chV c), .agg (dvC d)]) [] := by
  have hbd := mkBrd_ok l
  obtain ⟨hv, hn2, hn6⟩ := mkBrd_kinds l
  unfold boV at hbd
  generalize mkBrd l = B at *
  obtain ⟨bn, cp, cs, ws⟩ := B
  dsimp only at hbd hv hn2 hn6
  have hb := below_ok k cs.length (by omega) (by omega)
  have hr : 0 ≤ k % (cs.length : Int) ∧ k % (cs.length : Int) < cs.length := ⟨Int.emod_nonneg _ (by omega), Int.emod_lt_of_pos _ (by omega)⟩
  generalize k % (cs.length : Int) = q at *
  have hq : q.toNat < cs.length := by omega
  have hm : (cs.map chV)[q.toNat]? = some (chV cs[q.toNat]) := by rw [List.getElem?_map, List.getElem?_eq_getElem hq]; rfl
  have hc := hv _ (List.getElem_mem hq)
  generalize cs[q.toNat] = c at *
  obtain ⟨d0, hd0, hnew⟩ := chNew_ex c hc
  obtain ⟨ln, hL⟩ : ∃ ln : Nat, acts.length = ln := ⟨_, rfl⟩
  have hfin := goUsed_ok c hc (min (ln / 3) 12) d0 acts hd0
  refine ⟨c, goUsed c (min (ln / 3) 12) d0 acts, hfin, ?_⟩
  generalize hg : goUsed c (min (ln / 3) 12) d0 acts = D at *
  have hz := hc.size
  have hskip := fun d hd (t : Nat) ht => (chSkip_ok c d hd t ht)
  have hwr := wrV_ok c
  have e1 : IntKind.wrap .i64 ((ln : Int).tdiv 3) = ((ln / 3 : Nat) : Int) := by
    rw [Int.tdiv_eq_ediv_of_nonneg (by omega), show (ln : Int) / 3 = ((ln / 3 : Nat) : Int) by omega]; exact wrap64 (by omega) (by omega)
  have e2 : min ((ln / 3 : Nat) : Int) 12 = ((min (ln / 3) 12 : Nat) : Int) := by omega
  generalize hK : min (ln / 3) 12 = K0 at *
  have hK0 : K0 ≤ 12 := by omega
  have hcb : (chV c) = [.c (.string c.name), I c.kind, I c.base, I c.size, .sl 1 (bcells c.data)] := rfl
  refine N.fn Try.func28 k28 lb q28 fun Q hQ hQN => ?_
  rw [c28]
  repeat' (first
  | rw [cp_mren]
  | rw [List.length_map]
  | (show WOpsT _ (⟨_, .idx _ _ _ _, none⟩ :: _) _ _ _ _; refine T.idxs rfl rfl rfl (by omega) hm ?_)
  | rw [cells_len]
  | rw [hL]
  | rw [e1]
  | rw [e2]
  | (show WOpsT _ (⟨_, .call _ _, none⟩ :: _) _ _ _ _; first | refine T.call0 e21 rfl (hbd) ?_ | refine T.call0 e8 rfl (hb) ?_ | refine T.call0 e61 rfl (hnew) ?_)
  | exact True.intro
  | refine fun (K : KT) hK => ?_
  | intro hcd
  | (refine go1 ?_ ?_ <;> try clear hK K)
  | fail)
  obtain ⟨nm, kd, bs, sz, dat⟩ := c
  refine N.loop (σ := Nat × Dv × List Int) (fun s => [(6, .ptr 0 1 0 0), (7, .ptr 1 1 0 0), (9, .ptr 2 1 0 0), (10, .ptr 3 1 0 0), (11, .ptr 4 1 0 0), (31, I K0), (32, I s.1)]) (fun s => [⟨1, 5, [[.c (.string ⟨#[]⟩), I 0, I 0, I 0, .c (.slice none 0 0)]]⟩, ⟨1, 2, [[.c (.slice none 0 0), .c (.slice none 0 0)]]⟩, ⟨1, 5, [[.c (.string nm), I kd, I bs, I sz, .sl 1 (bcells dat)]]⟩, ⟨1, 2, [[.sl 1 (cells s.2.1.1), .sl 1 (bcells s.2.1.2)]]⟩, strB s.2.2]) (fun s => s.1 ≤ K0 ∧ DvOk ⟨nm, kd, bs, sz, dat⟩ s.2.1 ∧ goUsed ⟨nm, kd, bs, sz, dat⟩ (K0 - s.1) s.2.1 s.2.2 = D) (fun s => K0 - s.1) (0, d0, acts) ⟨Nat.zero_le _, hd0, hg⟩ (Weaks.gc [0, 1, 3, 4, 5] 1 rfl (by repeat (first | exact trivial | refine ⟨.rfl, ?_⟩ | refine ⟨.any, ?_⟩)) rfl) fun w hi K2 hC => ?_
  obtain ⟨i, d, l2⟩ := w
  obtain ⟨hi, hd, hst⟩ := hi
  dsimp only at hi hd hst hC hz ⊢
  by_cases hil : i < K0
  · rw [show K0 - i = K0 - (i + 1) + 1 by omega] at hst
    unfold goUsed at hst
    dsimp only at hst
    have hx1 := next_ok l2 sz (by omega)
    have r1 := sval_range l2 sz (by omega)
    have hx2 := next_ok (srest l2 sz) 256 (by decide)
    have hx3 := next_ok (srest (srest l2 sz) 256) 70 (by decide)
    have r3 := sval_range (srest (srest l2 sz) 256) 70 (by decide)
    obtain ⟨t, ht⟩ : ∃ t : Nat, sval (srest (srest l2 sz) 256) 70 = (t : Int) := ⟨(sval (srest (srest l2 sz) 256) 70).toNat, by omega⟩
    rw [ht] at hx3 r3
    rw [ht, Int.toNat_natCast] at hst
    obtain ⟨hd1, hw⟩ := hwr d hd (sval l2 sz) (sval (srest l2 sz) 256) r1
    generalize srest (srest (srest l2 sz) 256) 70 = l5 at *
    generalize srest (srest l2 sz) 256 = l4 at *
    generalize sval (srest l2 sz) 256 = v2 at *
    generalize srest l2 sz = l3 at *
    generalize sval l2 sz = v1 at *
    generalize wrV ⟨nm, kd, bs, sz, dat⟩ v1 v2 d = d1 at *
    obtain ⟨hd2, hk⟩ := hskip d1 hd1 t (by omega)
    generalize skipV ⟨nm, kd, bs, sz, dat⟩ t d1 = d2 at *
    have hw : FnE Try.prog 62 [.agg [.c (.string nm), I kd, I bs, I sz, .sl 1 (bcells dat)], .agg [.sl 1 (cells d.1), .sl 1 (bcells d.2)], I v1, I v2] [] (.agg [.sl 1 (cells d1.1), .sl 1 (bcells d1.2)]) [] := hw
    have hk : FnE Try.prog 29 [.agg [.c (.string nm), I kd, I bs, I sz, .sl 1 (bcells dat)], .agg [.sl 1 (cells d1.1), .sl 1 (bcells d1.2)], I t] [] (.agg [.sl 1 (cells d2.1), .sl 1 (bcells d2.2)]) [] := hk
    repeat' (first
    | (show WOpsT _ (⟨_, .call _ _, none⟩ :: _) _ _ _ _; first | refine T.call1 4 e37 rfl rfl (hx1) ?_ | refine T.call1 4 e37 rfl rfl (hx2) ?_ | refine T.call1 4 e37 rfl rfl (hx3) ?_ | refine T.call0 e62 rfl (hw) ?_ | refine T.call0 e29 rfl (hk) ?_)
    | exact True.intro
    | refine fun (K : KT) hK => ?_
    | intro hcd
    | (refine go1 ?_ ?_ <;> try clear hK K)
    | fail)
    exact hC _ _ (i + 1, d2, l5) ⟨by dsimp only; omega, hd2, hst⟩ (by dsimp only; omega) (Weaks.gc [0, 1, 2, 3, 4] 1 rfl (by repeat (first | exact trivial | refine ⟨.rfl, ?_⟩ | refine ⟨.any, ?_⟩)) rfl)
  · obtain rfl : i = K0 := by omega
    rw [Nat.sub_self] at hst
    unfold goUsed at hst
    subst hst
    repeat' (first
    | exact True.intro
    | refine fun (K : KT) hK => ?_
    | intro hcd
    | (refine go1 ?_ ?_ <;> try clear hK K)
    | fail)
    exact WS.drop (n := 1) rfl rfl
theorem parts_ok (l : List Int) (k : Int) (acts : List Int) (a z : Int) (hL0 : acts.length ≤ 4611686018427387904) : FnE Try.prog 7 [.sl 1 (cells l), I k, .sl 1 (cells acts), I a, I z] [] (.c (.bool true)) [] := by
  obtain ⟨⟨nm, kd, bs, sz, dat⟩, d, hd, hu⟩ := used_ex l k acts hL0
  have hch := chips_fact
  have hb1 := below_ok a 300 (by decide) (by decide)
  have hb2 := below_ok z 300 (by decide) (by decide)
  obtain ⟨A, hA⟩ : ∃ A : Nat, a % 300 = (A : Int) := ⟨(a % 300).toNat, by omega⟩
  obtain ⟨Z, hZ⟩ : ∃ Z : Nat, z % 300 = (Z : Int) := ⟨(z % 300).toNat, by omega⟩
  have rA : A < 300 := by omega
  have rZ : Z < 300 := by omega
  rw [hA] at hb1
  rw [hZ] at hb2
  obtain ⟨hd1, h1⟩ := chSkip_ok _ d hd 1 (by decide)
  obtain ⟨hdA, h2⟩ := chSkip_ok _ d hd A (by omega)
  obtain ⟨hdZ, h3⟩ := chSkip_ok _ _ hdA Z (by omega)
  obtain ⟨hdS, h4⟩ := chSkip_ok _ d hd (A + Z) (by omega)
  have he := skipV_add _ d hd A Z
  rw [he] at h3
  generalize skipV ⟨nm, kd, bs, sz, dat⟩ (A + Z) d = dS at *
  generalize skipV ⟨nm, kd, bs, sz, dat⟩ A d = dA at *
  generalize skipV ⟨nm, kd, bs, sz, dat⟩ 1 d = d1 at *
  have hs1 := sameDev_ok d1 hd1.small.1 hd1.small.2
  have hsS := sameDev_ok dS hdS.small.1 hdS.small.2
  have hu : FnE Try.prog 28 [.sl 1 (cells l), I k, .sl 1 (cells acts)] [] (.tup [.agg [.c (.string nm), I kd, I bs, I sz, .sl 1 (bcells dat)], .agg [.sl 1 (cells d.1), .sl 1 (bcells d.2)]]) [] := hu
  have h1 : FnE Try.prog 29 [.agg [.c (.string nm), I kd, I bs, I sz, .sl 1 (bcells dat)], .agg [.sl 1 (cells d.1), .sl 1 (bcells d.2)], I 1] [] (.agg [.sl 1 (cells d1.1), .sl 1 (bcells d1.2)]) [] := h1
  have h2 : FnE Try.prog 29 [.agg [.c (.string nm), I kd, I bs, I sz, .sl 1 (bcells dat)], .agg [.sl 1 (cells d.1), .sl 1 (bcells d.2)], I A] [] (.agg [.sl 1 (cells dA.1), .sl 1 (bcells dA.2)]) [] := h2
  have h3 : FnE Try.prog 29 [.agg [.c (.string nm), I kd, I bs, I sz, .sl 1 (bcells dat)], .agg [.sl 1 (cells dA.1), .sl 1 (bcells dA.2)], I Z] [] (.agg [.sl 1 (cells dS.1), .sl 1 (bcells dS.2)]) [] := h3
  have h4 : FnE Try.prog 29 [.agg [.c (.string nm), I kd, I bs, I sz, .sl 1 (bcells dat)], .agg [.sl 1 (cells d.1), .sl 1 (bcells d.2)], I ((A : Int) + Z)] [] (.agg [.sl 1 (cells dS.1), .sl 1 (bcells dS.2)]) [] := by
    rw [Int.natCast_add] at h4; exact h4
  have hs1 : FnE Try.prog 31 [.agg [.sl 1 (cells d1.1), .sl 1 (bcells d1.2)], .agg [.sl 1 (cells d1.1), .sl 1 (bcells d1.2)]] [] (.c (.bool true)) [] := hs1
  have hsS : FnE Try.prog 31 [.agg [.sl 1 (cells dS.1), .sl 1 (bcells dS.2)], .agg [.sl 1 (cells dS.1), .sl 1 (bcells dS.2)]] [] (.c (.bool true)) [] := hsS
  have htk : FnE Try.prog 32 [.agg [.c (.string nm), I kd, I bs, I sz, .sl 1 (bcells dat)], .agg [.sl 1 (cells d.1), .sl 1 (bcells d.2)]] [] (.agg [.sl 1 (cells d1.1), .sl 1 (bcells d1.2)]) [] := by
    refine N.fn Try.func32 k32 lb q32 fun Q hQ hQN => ?_
    rw [c32]
    repeat' (first
    | refine T.call0 e29 rfl (h1) ?_
    | exact True.intro
    | refine fun (K : KT) hK => ?_
    | intro hcd
    | (refine go1 ?_ ?_ <;> try clear hK K)
    | fail)
    exact WS.drop (n := 0) rfl rfl
  refine N.fn Try.func7 k7 lb q7 fun Q hQ hQN => ?_
  rw [c7]
  repeat' (first
  | (show WOpsT _ (⟨_, .call _ _, none⟩ :: _) _ _ _ _; first | refine T.call0 e28 rfl (hu) ?_ | refine T.call0 e30 rfl (hch) ?_ | refine T.call0 e8 rfl (hb1) ?_ | refine T.call0 e8 rfl (hb2) ?_ | refine T.call0 e29 rfl (h1) ?_ | refine T.call0 e29 rfl (h2) ?_ | refine T.call0 e29 rfl (h3) ?_ | refine T.call0 e29 rfl (h4) ?_ | refine T.call0 e31 rfl (hs1) ?_ | refine T.call0 e31 rfl (hsS) ?_ | refine T.call0 e32 rfl (htk) ?_)
  | exact True.intro
  | refine fun (K : KT) hK => ?_
  | intro hcd
  | (refine go1 ?_ ?_ <;> try clear hK K)
  | fail)
  exact WS.c rfl rfl
end Go.Proofs.Ytolmklnijjfppaa.Calc

