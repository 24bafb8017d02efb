/- Several texts in one (FnLawRange), for the proof of LawBoardRanges. No condition beyond those in each lemma. -/
import Derived.Test.YtolmklnijjfppaaPLawBoardRangesJ
namespace Go.Proofs.Ytolmklnijjfppaa.Calc
open Go Code
set_option linter.unusedSimpArgs false
set_option linter.unusedVariables false
set_option maxRecDepth 20000
set_option maxHeartbeats 4000000
attribute [local irreducible] WOpsT AW AK RK AKW UK UC
def manyR (l : List Rg) (n j : Nat) : List Int := (List.range n).map fun (k : Nat) => sumR (l.take j) (k : Int)
theorem manyR_len (l : List Rg) (n j : Nat) : (manyR l n j).length = n := by simp [manyR]
theorem manyR_getD (l : List Rg) (n j k : Nat) (h : k < n) : (manyR l n j).getD k 0 = sumR (l.take j) k := by
  unfold manyR
  rw [List.getD_eq_getElem?_getD, List.getElem?_map, List.getElem?_range h]; rfl
theorem sumR_take (l : List Rg) (j : Nat) (hj : j < l.length) (k : Int) : sumR (l.take (j + 1)) k = sumR (l.take j) k + if l[j].ch = k then l[j].to - l[j].fr else 0 := by
  rw [List.take_succ_eq_append_getElem hj, sumR_app, sumR_one]
theorem manyR_set (l : List Rg) (n j c : Nat) (hj : j < l.length) (hc : l[j].ch = (c : Int)) (hn : c < n) : (manyR l n j).set c (sumR (l.take j) c + (l[j].to - l[j].fr)) = manyR l n (j + 1) := by
  apply List.ext_getElem?
  intro k
  unfold manyR
  rw [List.getElem?_set, List.length_map, List.length_range, List.getElem?_map, List.getElem?_map]
  by_cases hk : c = k
  · subst hk
    rw [if_pos rfl, if_pos hn, List.getElem?_range hn, Option.map_some, sumR_take l j hj, if_pos hc]
  · rw [if_neg hk]
    by_cases hkn : k < n
    · rw [List.getElem?_range hkn, Option.map_some, Option.map_some, sumR_take l j hj, if_neg (by omega), Int.add_zero]
    · rw [List.getElem?_eq_none (by simp; omega)]; rfl
theorem manyR_same (l : List Rg) (n j : Nat) (hj : j < l.length) (hc : l[j].ch < 0) : manyR l n j = manyR l n (j + 1) := by
  unfold manyR
  apply List.map_congr_left
  intro k _
  rw [sumR_take l j hj, if_neg (by omega), Int.add_zero]
theorem manyR_zero (l : List Rg) (n : Nat) : manyR l n 0 = List.replicate n 0 := by
  unfold manyR
  apply List.ext_getElem?
  intro k
  rw [List.getElem?_map, List.getElem?_replicate]
  by_cases hk : k < n
  · rw [List.getElem?_range hk, if_pos hk]; rfl
  · rw [List.getElem?_eq_none (by simp; omega), if_neg hk]; rfl
theorem sumR_nonneg (l : List Rg) (k : Int) (h : ∀ r ∈ l, r.fr ≤ r.to) : 0 ≤ sumR l k := by
  induction l with
  | nil => exact Int.le_refl 0
  | cons a l ih =>
    have h1 := ih fun r hr => h r (List.mem_cons_of_mem _ hr)
    have h2 := h a (List.mem_cons_self ..)
    have : sumR (a :: l) k = (if a.ch = k then a.to - a.fr else 0) + sumR l k := rfl
    rw [this]; split <;> omega
theorem sumR_le (l : List Rg) (j : Nat) (k : Int) (h : ∀ r ∈ l, r.fr ≤ r.to) : 0 ≤ sumR (l.take j) k ∧ sumR (l.take j) k ≤ sumR l k := by
  have h1 := sumR_nonneg (l.take j) k fun r hr => h r (List.mem_of_mem_take hr)
  have h2 := sumR_nonneg (l.drop j) k fun r hr => h r (List.mem_of_mem_drop hr)
  have h3 := sumR_app (l.take j) (l.drop j) k
  rw [List.take_append_drop] at h3
  omega
def seenR (l : List Rg) (a : Int) (j : Nat) : Bool := (l.take j).any fun r => decide (r.fr ≤ a ∧ a < r.to)
theorem seenR_succ (l : List Rg) (a : Int) (j : Nat) (hj : j < l.length) : seenR l a (j + 1) = (seenR l a j || decide (l[j].fr ≤ a ∧ a < l[j].to)) := by
  unfold seenR
  rw [List.take_succ_eq_append_getElem hj, List.any_append]
  simp
theorem boards_fact : FnE Try.prog 24 [] [] (.c (.bool true)) [] := by
  have hvc : VCpu ⟨⟨#[99]⟩, [], [], [], []⟩ := ⟨vnm_of _ (by decide +kernel), Nat.zero_le _, fun x hx => absurd hx (by simp), fun i h => absurd h (by simp), fun i j h => absurd h (by simp), ⟨Nat.zero_le _, fun x hx => absurd hx (by simp)⟩, ⟨Nat.zero_le _, fun x hx => absurd hx (by simp)⟩, ⟨Nat.zero_le _, fun x hx => absurd hx (by simp)⟩⟩
  have hs : Sub (.agg [.c (.string ⟨#[98]⟩), .c (.string ⟨#[99]⟩), .c (.slice none 0 0), .c (.slice none 0 0), .c (.slice none 0 0), .c (.slice none 0 0), .sl 5 [[.c (.string ⟨#[114, 97, 109]⟩), I 0, I 8, I 4, .c (.slice none 0 0)]], .c (.slice none 0 0)]) (.agg (boV ⟨⟨#[98]⟩, ⟨⟨#[99]⟩, [], [], [], []⟩, [⟨⟨#[114, 97, 109]⟩, 0, 8, 4, []⟩], []⟩)) := by
    refine .agg (Eq.refl _) fun i x y hx hy => ?_
    match i with
    | 0 => cases hx; cases hy; exact .rfl
    | 1 => cases hx; cases hy; exact .rfl
    | 2 => cases hx; cases hy; exact .nil
    | 3 => cases hx; cases hy; exact .nil
    | 4 => cases hx; cases hy; exact .nil
    | 5 => cases hx; cases hy; exact .nil
    | 6 => cases hx; cases hy; exact sub_chQ [⟨⟨#[114, 97, 109]⟩, 0, 8, 4, []⟩]
    | 7 => cases hx; cases hy; exact .nil
    | i + 8 => cases hx
  have hf := FnE.arg0 (find_k ⟨⟨#[98]⟩, ⟨⟨#[99]⟩, [], [], [], []⟩, [⟨⟨#[114, 97, 109]⟩, 0, 8, 4, []⟩], []⟩ 9 (by intro c hc; simp only [List.mem_singleton] at hc; subst hc; decide) (by decide) (by decide)) hs
  have hk := FnE.arg0 (bcheck_ok ⟨⟨#[98]⟩, ⟨⟨#[99]⟩, [], [], [], []⟩, [⟨⟨#[114, 97, 109]⟩, 0, 8, 4, []⟩], []⟩ ⟨vnm_of _ (by decide +kernel), hvc, by decide, by intro c hc; simp only [List.mem_singleton] at hc; subst hc; exact .mem 4 (.inl rfl) rfl (by decide) (by decide) Bytes.nil, by intro c hc; simp only [List.mem_singleton] at hc; subst hc; exact ⟨vnm_of _ (by decide +kernel), by decide, by decide, by decide⟩, fun i j h hij => absurd h (by simp; omega), by decide⟩ (fun w hw => absurd hw (by simp)) (fun i h => absurd h (by simp))) hs
  have e : findR [⟨⟨#[114, 97, 109]⟩, 0, 8, 4, []⟩] 9 = .tup [I 0, I 1, .c (.bool true)] := rfl
  dsimp only at hf
  rw [e] at hf
  refine N.fn Try.func24 k24 lb q24 fun Q hQ hQN => ?_
  rw [c24]
  repeat' (first
  | (show AKW _ _ (.seq (.reg (⟨some 5, _, _⟩ :: _) _) _) _ _ _ _; skip; refine N.now ?_)
  | exact True.intro
  | refine fun (K : KT) hK => ?_
  | intro hcd
  | (refine goW ?_ ?_ <;> try clear hK K)
  | fail)
  refine N.weak (fr1 := [(1, .ptr 0 1 0 0)]) (h1 := [⟨1, 8, [[.c (.string ⟨#[98]⟩), .c (.string ⟨#[99]⟩), .c (.slice none 0 0), .c (.slice none 0 0), .c (.slice none 0 0), .c (.slice none 0 0), .sl 5 [[.c (.string ⟨#[114, 97, 109]⟩), I 0, I 8, I 4, .c (.slice none 0 0)]], .c (.slice none 0 0)]]⟩]) (Weaks.gc [1] 2 rfl (by repeat (first | exact trivial | refine ⟨.rfl, ?_⟩ | refine ⟨.any, ?_⟩)) rfl) (N.now ?_)
  repeat' (first
  | (show WOpsT _ (⟨_, .call _ _, none⟩ :: _) _ _ _ _; first | refine T.call0 e22 rfl (hf) ?_ | refine T.call0 e25 rfl (hk) ?_)
  | exact True.intro
  | refine fun (K : KT) hK => ?_
  | intro hcd
  | (refine go1 ?_ ?_ <;> try clear hK K)
  | fail)
  all_goals first
    | exact WS.c rfl rfl
    | exact WS.bool rfl (by decide)
theorem rangesB_ok (l : List Int) (a0 : Int) (B0 : Brd) (hbd : FnE Try.prog 21 [.sl 1 (cells l)] [] (.agg (boV B0)) []) (hv : ∀ c ∈ B0.chips, VKind c) (hn2 : 2 ≤ B0.chips.length) (hn6 : B0.chips.length ≤ 6) (hpl : ∀ c ∈ B0.chips, VPlace c) (hap : ∀ i j (h : j < B0.chips.length) (hij : i < j), Apart B0.chips[i] B0.chips[j] ∧ B0.chips[i].base + B0.chips[i].size ≤ B0.chips[j].base) : FnE Try.prog 5 [.sl 1 (cells l), I a0] [] (.c (.bool true)) [] := by
  have hsz : ∀ c ∈ B0.chips, 0 ≤ c.base ∧ c.base ≤ 65536 ∧ 1 ≤ c.size ∧ c.size ≤ 65536 := fun c hc => by
    have h1 := (hv c hc).size
    have h2 := (hpl c hc).lo
    have h3 := (hpl c hc).hi
    omega
  have hbf := boards_fact
  have hb := below_ok a0 65536 (by decide) (by decide)
  have hr : 0 ≤ a0 % 65536 ∧ a0 % 65536 < 65536 := by omega
  generalize a0 % 65536 = a at *
  have hf := find_k B0 a hsz (by omega) hr
  have hmap := ranges_ok B0 hsz (by omega)
  have inv := mapR_inv B0.chips 65536
  have hsum : ∀ k (hk : k < B0.chips.length), sumR (mapR B0.chips 65536) (k : Int) = B0.chips[k].size := fun k hk => by
    have hc := hsz _ (List.getElem_mem hk)
    have hp := (hpl _ (List.getElem_mem hk)).hi
    rw [mapR_sum B0.chips k B0.chips[k].base B0.chips[k].size ⟨hc.1, by omega⟩ (fun x => ixA_iff B0.chips (fun i j h hij => (hap i j h hij).2) (fun c hc => by have := hsz c hc; omega) k hk x) 65536]
    omega
  have hix : (∃ i : Nat, findR B0.chips a = .tup [I i, I (a - (B0.chips.getD i ramC).base), .c (.bool true)] ∧ ixA B0.chips a = (i : Int)) ∨ (findR B0.chips a = .tup [I 0, I 0, .c (.bool false)] ∧ ixA B0.chips a = -1) := by
    unfold findR ixA
    cases findC B0.chips a with
    | none => exact .inr ⟨rfl, rfl⟩
    | some i => exact .inl ⟨i, rfl, rfl⟩
  generalize hM : mapR B0.chips 65536 = M at *
  obtain ⟨g1, g2, _, g4⟩ := inv
  have hseen : seenR M a M.length = true := by
    unfold seenR
    rw [List.take_length, List.any_eq_true]
    obtain ⟨r, hr, h1, h2⟩ := g2 a hr.1 (by omega)
    exact ⟨r, hr, decide_eq_true ⟨h1, h2⟩⟩
  have hdiv : ∀ r ∈ M, r.fr ≤ a → a < r.to → ixA B0.chips a = r.ch := fun r hr h1 h2 => (g1 r hr).2.2.2.2 a h1 h2
  have hle : ∀ j k, 0 ≤ sumR (M.take j) k ∧ sumR (M.take j) k ≤ sumR M k := fun j k => sumR_le M j k fun r hr => by have := g1 r hr; omega
  obtain ⟨bn, ⟨nm, ins, r1, r2, r3⟩, cs, ws⟩ := B0
  dsimp only at *
  unfold boV cpC at hbd hf hmap
  dsimp only [List.cons_append, List.nil_append] at hbd hf hmap
  generalize ixA cs a = x at *
  generalize findR cs a = F at *
  obtain ⟨n, hn⟩ : ∃ n, cs.length = n := ⟨_, rfl⟩
  have e1 : ((n : Nat) : Int).toNat = n := by omega
  have ezc : List.replicate n [V.c (.int .i64 0)] = cells (manyR M n 0) := by rw [manyR_zero]; simp [cells]
  have hbnd : ∀ r ∈ M, 0 ≤ r.fr ∧ r.fr < r.to ∧ r.to ≤ 65536 ∧ -1 ≤ r.ch ∧ r.ch < n := fun r hr => by
    have := g1 r hr
    omega
  have main : ∀ (i : Int) (ok : Bool), F = .tup [I i, I (a - 0), .c (.bool ok)] ∨ True → (ok = true → x = i ∧ 0 ≤ i) → (ok = false → x = -1) → (∃ y, F = .tup [I i, y, .c (.bool ok)]) → FnE Try.prog 5 [.sl 1 (cells l), I a0] [] (.c (.bool true)) [] := fun i ok _ hx1 hx2 ⟨y, hF⟩ => by
    subst hF
    clear hv hpl hap hix
    refine N.fn Try.func5 k5 lb q5 fun Q hQ hQN => ?_
    rw [c5]
    repeat' (first
    | rw [List.length_map]
    | rw [hn]
    | rw [e1]
    | rw [ezc]
    | (show WOpsT _ (⟨_, .mksl _ _ _ _, none⟩ :: _) _ _ _ _; refine T.mksl rfl rfl ⟨by decide, by decide, by omega, by omega, by omega⟩ ?_)
    | (show WOpsT _ (⟨_, .call _ _, none⟩ :: _) _ _ _ _; first | refine T.call0 e21 rfl (hbd) ?_ | refine T.call0 e8 rfl (hb) ?_ | refine T.call0 e22 rfl (hf) ?_ | refine T.call0 e23 rfl (hmap) ?_)
    | exact True.intro
    | refine fun (K : KT) hK => ?_
    | intro hcd
    | (refine go1 ?_ ?_ <;> try clear hK K)
    | fail)
    refine N.loop (σ := Nat) (fun j => [(1, I a), (5, .ptr 0 1 0 0), (6, I i), (8, .c (.bool ok)), (9, .psl 1 1 0 n), (10, .c (.bool (seenR M a j))), (31, .sl 3 (M.map rgV)), (32, I M.length), (33, I j)]) (fun j => [⟨1, 8, [[.c (.string bn), .c (.string nm), .sl 4 (ins.map inC), .sl 4 (r1.map cyC), .sl 4 (r2.map cyC), .sl 4 (r3.map cyC), .sl 5 (cs.map chV), .sl 2 (ws.map wiV)]]⟩, ⟨1, 1, cells (manyR M n j)⟩]) (fun j => j ≤ M.length) (fun j => M.length - j) 0 (Nat.zero_le _) (Weaks.sel (by repeat (first | exact trivial | refine ⟨.rfl, ?_⟩ | refine ⟨.any, ?_⟩)) rfl) fun j hj R hC => ?_
    by_cases hjl : j < M.length
    · have hm := mget rgV M j hjl
      have hmem := List.getElem_mem hjl
      have hb1 := hbnd _ hmem
      have hin := hdiv _ hmem
      have hs := seenR_succ M a j hjl
      have next : ∀ (b : Bool) (m : List Int) (fr : Fr) (h : List Blk), seenR M a (j + 1) = b → manyR M n (j + 1) = m → Weaks 0 fr h [(1, I a), (5, .ptr 0 1 0 0), (6, I i), (8, .c (.bool ok)), (9, .psl 1 1 0 n), (10, .c (.bool b)), (31, .sl 3 (M.map rgV)), (32, I M.length), (33, I ((j : Int) + 1))] [⟨1, 8, [[.c (.string bn), .c (.string nm), .sl 4 (ins.map inC), .sl 4 (r1.map cyC), .sl 4 (r2.map cyC), .sl 4 (r3.map cyC), .sl 5 (cs.map chV), .sl 2 (ws.map wiV)]]⟩, ⟨1, 1, cells m⟩] → R fr h := fun b m fr h hb hm hw => by
        subst hb; subst hm
        exact hC fr h (j + 1) (by omega) (by omega) hw
      have hset := fun c => manyR_set M n j c hjl
      have hsame := manyR_same M n j hjl
      clear hC hdiv hbnd
      generalize M[j] = r at *
      obtain ⟨rf, rt, rc⟩ := r
      dsimp only [rgV] at hm hb1 hin hs hset hsame
      have hs1 : rf ≤ a ∧ a < rt → seenR M a (j + 1) = true := fun h => by rw [hs, decide_eq_true h, Bool.or_true]
      have hs0 : ¬ (rf ≤ a ∧ a < rt) → seenR M a (j + 1) = seenR M a j := fun h => by rw [hs, decide_eq_false h, Bool.or_false]
      generalize seenR M a j = sn at *
      by_cases hc0 : 0 ≤ rc
      · obtain ⟨c, rfl⟩ : ∃ c : Nat, rc = (c : Int) := ⟨rc.toNat, by omega⟩
        have hcl : c < n := by omega
        have hset := hset c rfl hcl
        have hS := hle j c
        rw [hsum c (by omega)] at hS
        have hsz2 := hsz _ (List.getElem_mem (show c < cs.length by omega))
        have hg : (cells (manyR M n j))[c]? = some [.c (.int .i64 (sumR (M.take j) c))] := by
          rw [← manyR_getD M n j c hcl]; exact iget (by rw [manyR_len]; exact hcl)
        generalize sumR (M.take j) c = q at *
        have hst : (cells (manyR M n j)).set c (spl [I q] 0 [I (q + (rt - rf))]) = cells (manyR M n (j + 1)) := by
          rw [← hset]; exact cells_set _ _ _
        have hge : decide (0 ≤ (c : Int)) = true := decide_eq_true (by omega)
        have hq : ok = true → (rf ≤ a ∧ a < rt) → decide ((c : Int) = i) = true := fun h1 h2 => decide_eq_true (by have := hin h2.1 h2.2; have := hx1 h1; omega)
        have hno : ok = false → ¬ (rf ≤ a ∧ a < rt) := fun h1 h2 => by have := hin h2.1 h2.2; have := hx2 h1; omega
        clear hset
        cases ok
        all_goals
          repeat' (first
          | (show WOpsT _ (⟨_, .idx _ _ _ _, none⟩ :: _) _ _ _ _; refine T.idxs rfl rfl rfl (by omega) hm ?_)
          | rw [hn]
          | rw [Int.toNat_natCast]
          | (show WOpsT _ (⟨_, .ld _ _, none⟩ :: _) _ _ _ _; refine T.ld rfl rfl rfl hg rfl ?_)
          | (show WOpsT _ (⟨_, .st _ _ _, none⟩ :: _) _ _ _ _; refine T.st rfl rfl rfl ⟨rfl, rfl⟩ hg lb ?_)
          | rw [hst]
          | rw [hge]
          | rw [hq rfl (by omega)]
          | exact True.intro
          | refine fun (K : KT) hK => ?_
          | intro hcd
          | (refine go1 ?_ ?_ <;> try clear hK K)
          | fail)
          all_goals first
            | (exfalso; omega)
            | (exfalso; exact hno rfl (by omega))
            | exact next true _ _ _ (hs1 (by omega)) rfl (Weaks.gc [0, 1] 1 rfl (by repeat (first | exact trivial | refine ⟨.rfl, ?_⟩ | refine ⟨.any, ?_⟩)) (by first | rfl | (symm; unfold outH; simp only [List.map]; (repeat' (first | rfl | exact outB_bytes | exact outB_ints | exact outB_flat | refine consE ?_ ?_)); done)))
            | exact next sn _ _ _ (hs0 (by omega)) rfl (Weaks.gc [0, 1] 1 rfl (by repeat (first | exact trivial | refine ⟨.rfl, ?_⟩ | refine ⟨.any, ?_⟩)) (by first | rfl | (symm; unfold outH; simp only [List.map]; (repeat' (first | rfl | exact outB_bytes | exact outB_ints | exact outB_flat | refine consE ?_ ?_)); done)))
            | trace_state
      · obtain rfl : rc = -1 := by omega
        have hsame := hsame (by omega)
        have hno : ok = true → ¬ (rf ≤ a ∧ a < rt) := fun h1 h2 => by have := hin h2.1 h2.2; have := hx1 h1; omega
        clear hset
        cases ok
        all_goals
          repeat' (first
          | (show WOpsT _ (⟨_, .idx _ _ _ _, none⟩ :: _) _ _ _ _; refine T.idxs rfl rfl rfl (by omega) hm ?_)
          | rw [hn]
          | exact True.intro
          | refine fun (K : KT) hK => ?_
          | intro hcd
          | (refine go1 ?_ ?_ <;> try clear hK K)
          | fail)
          all_goals first
            | (exfalso; omega)
            | (exfalso; exact hno rfl (by omega))
            | exact next true _ _ _ (hs1 (by omega)) hsame.symm (Weaks.gc [0, 1] 1 rfl (by repeat (first | exact trivial | refine ⟨.rfl, ?_⟩ | refine ⟨.any, ?_⟩)) (by first | rfl | (symm; unfold outH; simp only [List.map]; (repeat' (first | rfl | exact outB_bytes | exact outB_ints | exact outB_flat | refine consE ?_ ?_)); done)))
            | exact next sn _ _ _ (hs0 (by omega)) hsame.symm (Weaks.gc [0, 1] 1 rfl (by repeat (first | exact trivial | refine ⟨.rfl, ?_⟩ | refine ⟨.any, ?_⟩)) (by first | rfl | (symm; unfold outH; simp only [List.map]; (repeat' (first | rfl | exact outB_bytes | exact outB_ints | exact outB_flat | refine consE ?_ ?_)); done)))
            | trace_state
    · obtain rfl : j = M.length := by omega
      rw [hseen]
      clear hC hdiv hbnd
      repeat' (first
      | rw [List.length_map]
      | rw [hn]
      | exact True.intro
      | refine fun (K : KT) hK => ?_
      | intro hcd
      | (refine go1 ?_ ?_ <;> try clear hK K)
      | fail)
      refine N.loop (σ := Nat) (fun k => [(9, .psl 1 1 0 n), (10, .c (.bool true)), (89, .sl 5 (cs.map chV)), (90, I n), (91, I k)]) (fun k => [⟨1, 8, [[.c (.string bn), .c (.string nm), .sl 4 (ins.map inC), .sl 4 (r1.map cyC), .sl 4 (r2.map cyC), .sl 4 (r3.map cyC), .sl 5 (cs.map chV), .sl 2 (ws.map wiV)]]⟩, ⟨1, 1, cells (manyR M n M.length)⟩]) (fun k => k ≤ n) (fun k => n - k) 0 (Nat.zero_le _) (Weaks.sel (by repeat (first | exact trivial | refine ⟨.rfl, ?_⟩ | refine ⟨.any, ?_⟩)) rfl) fun k hk R2 hC2 => ?_
      by_cases hkl : k < n
      · have hm := mget chV cs k (by omega)
        have hs := hsum k (by omega)
        have hg : (cells (manyR M n M.length))[k]? = some [.c (.int .i64 (sumR (M.take M.length) k))] := by
          rw [← manyR_getD M n M.length k hkl]; exact iget (by rw [manyR_len]; exact hkl)
        rw [List.take_length, hs] at hg
        generalize cs[k] = c at *
        obtain ⟨c1, c2, c3, c4, c5⟩ := c
        dsimp only [chV] at hm hg
        repeat' (first
        | (show WOpsT _ (⟨_, .idx _ _ _ _, none⟩ :: _) _ _ _ _; refine T.idxs rfl rfl rfl (by omega) hm ?_)
        | rw [Int.toNat_natCast]
        | (show WOpsT _ (⟨_, .ld _ _, none⟩ :: _) _ _ _ _; refine T.ld rfl rfl rfl hg rfl ?_)
        | exact True.intro
        | refine fun (K : KT) hK => ?_
        | intro hcd
        | (refine go1 ?_ ?_ <;> try clear hK K)
        | fail)
        all_goals first
          | (exfalso; omega)
          | exact hC2 _ _ (k + 1) (by omega) (by omega) (Weaks.gc [0, 1] 1 rfl (by repeat (first | exact trivial | refine ⟨.rfl, ?_⟩ | refine ⟨.any, ?_⟩)) (by first | rfl | (symm; unfold outH; simp only [List.map]; (repeat' (first | rfl | exact outB_bytes | exact outB_ints | exact outB_flat | refine consE ?_ ?_)); done)))
          | trace_state
      · obtain rfl : k = n := by omega
        repeat' (first
        | refine T.call0 e24 rfl (hbf) ?_
        | exact True.intro
        | refine fun (K : KT) hK => ?_
        | intro hcd
        | (refine go1 ?_ ?_ <;> try clear hK K)
        | fail)
        exact WS.c rfl rfl
  rcases hix with ⟨i, hF, hx⟩ | ⟨hF, hx⟩
  · exact main i true (.inr trivial) (fun _ => ⟨hx, by omega⟩) (fun h => absurd h (by decide)) ⟨_, hF⟩
  · exact main 0 false (.inr trivial) (fun h => absurd h (by decide)) (fun _ => hx) ⟨_, hF⟩
theorem boardranges_ok (l : List Int) (a0 : Int) : FnE Try.prog 5 [.sl 1 (cells l), I a0] [] (.c (.bool true)) [] :=
  rangesB_ok l a0 (mkBrd l) (mkBrd_ok l) (mkBrd_kinds l).1 (mkBrd_kinds l).2.1 (mkBrd_kinds l).2.2 (mkBrd_places l).1 (mkBrd_places l).2
end Go.Proofs.Ytolmklnijjfppaa.Calc

