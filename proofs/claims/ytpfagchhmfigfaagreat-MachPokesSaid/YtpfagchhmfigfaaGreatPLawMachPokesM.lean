/- Several texts in one (FnLawParts, FnWire, PureWire, FnWireB, FnPokes), for the proof of LawMachPokes. No condition beyond those in each lemma. -/
import Derived.Test.YtpfagchhmfigfaaGreatPLawMachPokesK
import Derived.Test.YtpfagchhmfigfaaGreatPLawMachPokesL
import Derived.Test.YtpfagchhmfigfaaGreatPLawMachPokesD
import Derived.Laws.StandIn
namespace Go.Proofs.YtpfagchhmfigfaaGreat.Calc
open Go Code
set_option linter.unusedSimpArgs false
set_option linter.unusedVariables false
set_option maxRecDepth 20000
set_option maxHeartbeats 4000000
attribute [local irreducible] WOpsT AW AK RK AKW UK UC
theorem datB_kind (k i : Nat) (a : Int) (l : List Int) (h : 2 ≤ k ∧ k ≤ 8) : VKind (mkChp k i a (datB k i l).1) := by
  unfold mkChp datB
  by_cases h8 : k = 8
  · subst h8
    have r := sval_range l 2 (by decide)
    rw [if_pos rfl]
    exact .drive (1 + (sval l 2).toNat) rfl rfl (by omega) (drvD_len _ _ _) (drvD_bytes _ _ _)
  · rw [if_neg h8]
    by_cases h2 : k = 2
    · subst h2
      have r := sval_range (srest (srest l 256) 256) 3 (by decide)
      rw [if_pos rfl]
      exact .bank (1 + (sval (srest (srest l 256) 256) 3).toNat) rfl rfl (by omega) (by rw [show 8 * (1 + (sval (srest (srest l 256) 256) 3).toNat) = 8 + 8 * (sval (srest (srest l 256) 256) 3).toNat by omega]; exact bytesOf_len _ _) (bytesOf_bytes _ _)
    · rw [if_neg h2]
      exact .dev (by dsimp only; omega) (by dsimp only; rw [Int.toNat_natCast]) rfl
theorem goBd_kind : ∀ (n i : Nat) (a : Int) (cs : List Chp) (ws : List Wir) (l : List Int), (∀ c ∈ cs, VKind c) → (∀ c ∈ (goBd n i a cs ws l).1, VKind c) ∧ (goBd n i a cs ws l).1.length = cs.length + n := by
  intro n
  induction n with
  | zero => intro i a cs ws l h; exact ⟨h, rfl⟩
  | succ n ih =>
    intro i a cs ws l h
    have r := sval_range l 8 (by decide)
    have hk := kdN_r (sval l 8).toNat (by omega)
    unfold goBd
    obtain ⟨h1, h2⟩ := ih (i + 1) (a + ((szN (kdN (sval l 8).toNat) : Int) + 15) / 16 * 16) (cs ++ [(stepBd (kdN (sval l 8).toNat) i a (srest l 8)).1]) (ws ++ (stepBd (kdN (sval l 8).toNat) i a (srest l 8)).2.1) (stepBd (kdN (sval l 8).toNat) i a (srest l 8)).2.2 (by
      intro c hc
      rcases List.mem_append.1 hc with hc | hc
      · exact h c hc
      · simp only [List.mem_singleton] at hc; subst hc
        exact datB_kind _ _ _ _ hk)
    exact ⟨h1, by rw [h2, List.length_append, List.length_singleton]; omega⟩
theorem mkBrd_kinds (l : List Int) : (∀ c ∈ (mkBrd l).chips, VKind c) ∧ 2 ≤ (mkBrd l).chips.length ∧ (mkBrd l).chips.length ≤ 6 := by
  have r := sval_range l 5 (by decide)
  obtain ⟨h1, h2⟩ := goBd_kind (sval l 5).toNat 0 57344 [ramC] [] (srest l 5) (by
    intro c hc; simp only [List.mem_singleton] at hc; subst hc
    exact .mem 768 (.inl rfl) rfl (by decide) (by decide) Bytes.nil)
  obtain ⟨g1, g2, _⟩ := romD_ok (bdOf l).2.2
  refine ⟨fun c hc => ?_, ?_⟩
  · rcases List.mem_append.1 hc with hc | hc
    · exact h1 c hc
    · simp only [List.mem_singleton] at hc; subst hc
      exact .mem 256 (.inr rfl) rfl (by decide) (by show (romD _).length ≤ 256; omega) g2
  · have : (mkBrd l).chips.length = (bdOf l).1.length + 1 := by show ((bdOf l).1 ++ [_]).length = _; rw [List.length_append]; rfl
    rw [this]
    have h3 : (bdOf l).1.length = 1 + (sval l 5).toNat := h2
    omega
theorem DvOk.small {c : Chp} {d : Dv} (h : DvOk c d) : d.1.length ≤ 100000 ∧ d.2.length ≤ 100000 := by
  rcases h with ⟨z, hk, hs, h1, m, hm, hb⟩ | ⟨nb, hk, hs, h1, hd, n, hn, m, hm, hb⟩ | ⟨hk, hs, x, y, e, f, h⟩ | ⟨hk, hs, x, y, z, h⟩ | ⟨hk, hs, s1, l, g, f, o, e, n, z, h⟩ | ⟨hk, hs, p, q, m, h⟩ | ⟨hk, hs, x, y, hx, hy⟩ | ⟨nd, hk, hs, e, m, h⟩
  · exact ⟨Nat.zero_le _, by dsimp only; omega⟩
  · exact ⟨lb, by dsimp only; omega⟩
  · exact ⟨lb, lb⟩
  · exact ⟨lb, lb⟩
  · exact ⟨lb, lb⟩
  · exact ⟨lb, by have := h.len; dsimp only; omega⟩
  · exact ⟨lb, lb⟩
  · exact ⟨lb, by have := h.len; have := h.nd; dsimp only; omega⟩
noncomputable def wrV (c : Chp) (a v : Int) (d : Dv) : Dv := open Classical in if h : DvOk c d ∧ 0 ≤ a ∧ a < c.size then (chWrite_ex c d h.1 a v h.2).choose else d
noncomputable def goUsed (c : Chp) : Nat → Dv → List Int → Dv
  | 0, d, _ => d
  | n + 1, d, l => goUsed c n (skipV c (sval (srest (srest l c.size) 256) 70).toNat (wrV c (sval l c.size) (sval (srest l c.size) 256) d)) (srest (srest (srest l c.size) 256) 70)
theorem VKind.size {c : Chp} (h : VKind c) : 1 ≤ c.size ∧ c.size ≤ 4096 := by
  rcases h with ⟨z, hk, hs, h1, hd, hb⟩ | ⟨nb, hk, hs, h1, hd, hb⟩ | ⟨hk, hs, hd⟩ | ⟨nd, hk, hs, hn, hd, hb⟩
  · omega
  · omega
  · rw [hs]
    rcases hk with h | h | h | h | h <;> rw [h] <;> decide
  · omega
end Go.Proofs.YtpfagchhmfigfaaGreat.Calc

namespace Go.Proofs.YtpfagchhmfigfaaGreat.Calc
open Go Code
set_option linter.unusedSimpArgs false
set_option linter.unusedVariables false
set_option maxRecDepth 20000
set_option maxHeartbeats 4000000
attribute [local irreducible] WOpsT AW AK RK AKW UK UC
theorem ibs_x (s : ByteArray) (c : Int) : ExtE Tryz.prog 258 [.c (.string s), .c (.int .u8 c)] (I (firstIdx s c.toNat.toUInt8)) := by
  intro X w ι vs hn hr
  have e : vs = #[.string s, .int .u8 c] := by
    obtain ⟨l⟩ := vs
    match l, hn with
    | [a, b], _ =>
      have h1 := hr 0 a _ rfl rfl
      have h2 := hr 1 b _ rfl rfl
      cases h1; cases h2; rfl
  subst e
  refine ⟨_, ?_, .c⟩
  rw [run_callFunc_indexByte Tryz.func258 (by kernel_rfl) (by kernel_rfl) (by kernel_rfl) (by kernel_rfl), run_indexByte_string]
  rfl
theorem ib_ok (s : ByteArray) (c : Int) : FnE Tryz.prog 254 [.c (.string s), .c (.int .u8 c)] [] (I (firstIdx s c.toNat.toUInt8)) [] := by
  refine N.fn Tryz.func254 k254 lb q254 fun Q hQ hQN => ?_
  rw [c254]
  repeat' (first
  | (show WOpsT _ (⟨_, .xcall _ _, none⟩ :: _) _ _ _ _; refine T.xcall rfl (ibs_x _ _) ?_)
  | exact True.intro
  | refine fun (K : KT) hK => ?_
  | intro hcd
  | (refine go1 ?_ ?_ <;> try clear hK K)
  | fail)
  exact WS.c rfl rfl
theorem dot_ok (s : ByteArray) (hs : s ≠ ⟨#[46]⟩) : FnE Tryz.prog 251 [.c (.string s), .c (.string ⟨#[46]⟩)] [] (I (firstIdx s 46)) [] := by
  have hx := ib_ok s 46
  have e : decide ((⟨#[46]⟩ : ByteArray) = s) = false := decide_eq_false fun h => hs h.symm
  refine N.fn Tryz.func251 k251 lb q251 fun Q hQ hQN => ?_
  rw [c251]
  repeat' (first
  | (show WOpsT _ (⟨_, .ixs _ _, none⟩ :: _) _ _ _ _; refine T.ixs rfl rfl (by decide) rfl ?_)
  | rw [e]
  | refine T.call0 e254 rfl (hx) ?_
  | exact True.intro
  | refine fun (K : KT) hK => ?_
  | intro hcd
  | (refine go1 ?_ ?_ <;> try clear hK K)
  | fail)
  all_goals first
    | exact WS.c rfl rfl
    | (exfalso; omega)
    | trace_state
theorem cutL_ok (s a b : ByteArray) (k : Nat) (hk : k < s.size) (hz : s.size ≤ 1000) (hs : s ≠ ⟨#[46]⟩) (hi : firstIdx s 46 = k) (ha : s.extract 0 k = a) (hb : s.extract (k + 1) s.size = b) : FnE Tryz.prog 236 [.c (.string s), .c (.string ⟨#[46]⟩)] [] (.tup [.c (.string a), .c (.string b), .c (.bool true)]) [] := by
  have hx := dot_ok s hs
  rw [hi] at hx
  have e1 : ((⟨#[46]⟩ : ByteArray).size : Int) = 1 := rfl
  refine N.fn Tryz.func236 k236 lb q236 fun Q hQ hQN => ?_
  rw [c236]
  repeat' (first
  | rw [e1]
  | refine T.call0 e251 rfl (hx) ?_
  | exact True.intro
  | refine fun (K : KT) hK => ?_
  | intro hcd
  | (refine go1 ?_ ?_ <;> try clear hK K)
  | fail)
  all_goals first
    | (exfalso; omega)
    | skip
  rw [show ((k : Int) + 1).toNat = k + 1 by omega, Int.toNat_natCast, Int.toNat_natCast, ha, hb]
  exact WS.drop (n := 0) rfl rfl
theorem cut_ok (s a b : ByteArray) (k : Nat) (hk : k < s.size) (hz : s.size ≤ 1000) (hs : s ≠ ⟨#[46]⟩) (hi : firstIdx s 46 = k) (ha : s.extract 0 k = a) (hb : s.extract (k + 1) s.size = b) : FnE Tryz.prog 191 [.c (.string s), .c (.string ⟨#[46]⟩)] [] (.tup [.c (.string a), .c (.string b), .c (.bool true)]) [] := by
  have hx := cutL_ok s a b k hk hz hs hi ha hb
  refine N.fn Tryz.func191 k191 lb q191 fun Q hQ hQN => ?_
  rw [c191]
  repeat' (first
  | refine T.call0 e236 rfl (hx) ?_
  | exact True.intro
  | refine fun (K : KT) hK => ?_
  | intro hcd
  | (refine go1 ?_ ?_ <;> try clear hK K)
  | fail)
  exact WS.drop (n := 0) rfl rfl
theorem idx1_ok (s : ByteArray) (c : Chp) : FnE Tryz.prog 237 [.agg (chV c), .ptr 0 1 0 0] [⟨1, 1, [[.c (.string s)]]⟩] (.c (.bool (decide (c.name = s)))) [⟨1, 1, [[.c (.string s)]]⟩] := by
  obtain ⟨nm, k, b, z, dat⟩ := c
  dsimp only [chV]
  refine N.fn Tryz.func237 k237 lb q237 fun Q hQ hQN => ?_
  rw [c237]
  repeat' (first
  | exact True.intro
  | refine fun (K : KT) hK => ?_
  | intro hcd
  | (refine go1 ?_ ?_ <;> try clear hK K)
  | fail)
  exact WS.gc [0] 1 rfl (by first | rfl | (symm; unfold outH; simp only [List.map]; (repeat' (first | rfl | exact outB_bytes | exact outB_ints | exact outB_flat | refine consE ?_ ?_)); done)) .rfl
theorem idxC_ok (f : Nat) (he : enters Tryz.prog f = true) (s : ByteArray) (l : List Chp) (i : Nat) (hi : i < l.length) (hn : l[i].name = s) (hb : ∀ j, j < i → ∀ hj : j < l.length, l[j].name ≠ s) (hl : l.length ≤ 256) (hp : ∀ x : Chp, FnE Tryz.prog f [.agg (chV x), .ptr 0 1 0 0] [⟨1, 1, [[.c (.string s)]]⟩] (.c (.bool (decide (x.name = s)))) [⟨1, 1, [[.c (.string s)]]⟩]) : FnE Tryz.prog 22 [.sl 5 (l.map chV), .fn f [.ptr 0 1 0 0]] [⟨1, 1, [[.c (.string s)]]⟩] (I i) [⟨1, 1, [[.c (.string s)]]⟩] := by
  refine N.fn Tryz.func22 k22 lb q22 fun Q hQ hQN => ?_
  rw [c22]
  repeat' (first
  | rw [List.length_map]
  | exact True.intro
  | refine fun (K : KT) hK => ?_
  | intro hcd
  | (refine go1 ?_ ?_ <;> try clear hK K)
  | fail)
  refine N.loop (σ := Nat) (fun j => [(0, .sl 5 (l.map chV)), (1, .fn f [.ptr 0 1 0 0]), (7, I l.length), (8, I j)]) (fun j => [⟨1, 1, [[.c (.string s)]]⟩]) (fun j => j ≤ i) (fun j => i - j) 0 (Nat.zero_le _) (Weaks.sel (by repeat (first | exact trivial | refine ⟨.rfl, ?_⟩ | refine ⟨.any, ?_⟩)) rfl) fun j hj R hC => ?_
  have hjl : j < l.length := by omega
  have hm := mget chV l j hjl
  have hv := hp l[j]
  by_cases hji : j = i
  · subst hji
    rw [hn, decide_eq_true rfl] at hv
    generalize l[j] = x at *
    obtain ⟨xn, xk, xb, xs, xd⟩ := x
    dsimp only [chV] at hm hv
    repeat' (first
    | (show WOpsT _ (⟨_, .idx _ _ _ _, none⟩ :: _) _ _ _ _; refine T.idxs rfl rfl rfl (by omega) hm ?_)
    | refine T.ofFn rfl (C.read [0] he rfl hv rfl rfl rfl rfl rfl ?_)
    | exact True.intro
    | refine fun (K : KT) hK => ?_
    | intro hcd
    | (refine go1 ?_ ?_ <;> try clear hK K)
    | fail)
    exact WS.gc [0] 1 rfl (by first | rfl | (symm; unfold outH; simp only [List.map]; (repeat' (first | rfl | exact outB_bytes | exact outB_ints | exact outB_flat | refine consE ?_ ?_)); done)) .rfl
  · have h1 := hb j (by omega) hjl
    rw [decide_eq_false h1] at hv
    generalize l[j] = x at *
    obtain ⟨xn, xk, xb, xs, xd⟩ := x
    dsimp only [chV] at hm hv
    repeat' (first
    | (show WOpsT _ (⟨_, .idx _ _ _ _, none⟩ :: _) _ _ _ _; refine T.idxs rfl rfl rfl (by omega) hm ?_)
    | refine T.ofFn rfl (C.read [0] he rfl hv rfl rfl rfl rfl rfl ?_)
    | exact True.intro
    | refine fun (K : KT) hK => ?_
    | intro hcd
    | (refine go1 ?_ ?_ <;> try clear hK K)
    | fail)
    exact hC _ _ (j + 1) (by omega) (by omega) (Weaks.sel (by repeat (first | exact trivial | refine ⟨.rfl, ?_⟩ | refine ⟨.any, ?_⟩)) rfl)
theorem bindex_ok (b : Brd) (s : ByteArray) (i : Nat) (hi : i < b.chips.length) (hn : b.chips[i].name = s) (hb : ∀ j, j < i → ∀ hj : j < b.chips.length, b.chips[j].name ≠ s) (hl : b.chips.length ≤ 256) : FnE Tryz.prog 192 [.agg (boV b), .c (.string s)] [] (I i) [] := by
  have hx := idxC_ok 237 e237 s b.chips i hi hn hb hl fun x => idx1_ok s x
  obtain ⟨bn, ⟨nm, ins, r1, r2, r3⟩, cs, ws⟩ := b
  unfold boV cpC
  dsimp only [List.cons_append, List.nil_append] at hx ⊢
  refine N.fn Tryz.func192 k192 lb q192 fun Q hQ hQN => ?_
  rw [c192]
  repeat' (first
  | refine T.cP [1] e22 (hx) ?_
  | exact True.intro
  | refine fun (K : KT) hK => ?_
  | intro hcd
  | (refine go1 ?_ ?_ <;> try clear hK K)
  | fail)
  exact WS.drop (n := 0) rfl rfl
theorem wire_ok (b : Brd) (w : Wir) (s : ByteArray) (k i : Nat) (hk : k < w.src.size) (hz : w.src.size ≤ 1000) (hs : w.src ≠ ⟨#[46]⟩) (hf : firstIdx w.src 46 = k) (ha : w.src.extract 0 k = s) (hp : w.src.extract (k + 1) w.src.size = ⟨#[105, 114, 113]⟩) (hd : w.dst = sCpuIrq) (hi : i < b.chips.length) (hn : b.chips[i].name = s) (hb : ∀ j, j < i → ∀ hj : j < b.chips.length, b.chips[j].name ≠ s) (hl : b.chips.length ≤ 256) (hkd : b.chips[i].kind = 3 ∨ b.chips[i].kind = 5 ∨ b.chips[i].kind = 8) : FnE Tryz.prog 111 [.agg (boV b), .agg (wiV w)] [] (I 0) [] := by
  have hc := cut_ok w.src s _ k hk hz hs hf ha hp
  have hx := bindex_ok b s i hi hn hb hl
  have hm := mget chV b.chips i hi
  have has : FnE Tryz.prog 193 [I b.chips[i].kind] [] (.c (.bool true)) [] := by
    refine N.fn Tryz.func193 k193 lb q193 fun Q hQ hQN => ?_
    rw [c193]
    repeat' (first
    | exact True.intro
    | refine fun (K : KT) hK => ?_
    | intro hcd
    | (refine go1 ?_ ?_ <;> try clear hK K)
    | fail)
    all_goals first
      | exact WS.c rfl rfl
      | exact WS.bool rfl (by simp; omega)
      | (exfalso; omega)
      | trace_state
  generalize b.chips[i] = x at *
  obtain ⟨xn, xk, xb, xs, xd⟩ := x
  obtain ⟨w1, w2⟩ := w
  obtain ⟨bn, ⟨nm, ins, r1, r2, r3⟩, cs, ws⟩ := b
  dsimp only at hd hc has hl
  subst hd
  unfold boV cpC at *
  dsimp only [List.cons_append, List.nil_append, chV, wiV, sCpuIrq] at *
  refine N.fn Tryz.func111 k111 lb q111 fun Q hQ hQN => ?_
  rw [c111]
  repeat' (first
  | (show WOpsT _ (⟨_, .idx _ _ _ _, none⟩ :: _) _ _ _ _; refine T.idxs rfl rfl rfl (by omega) hm ?_)
  | rw [Bool.not_true]
  | (show WOpsT _ (⟨_, .call _ _, none⟩ :: _) _ _ _ _; first | refine T.call0 e191 rfl (hc) ?_ | refine T.call0 e192 rfl (hx) ?_ | refine T.call0 e193 rfl (has) ?_)
  | exact True.intro
  | refine fun (K : KT) hK => ?_
  | intro hcd
  | (refine go1 ?_ ?_ <;> try clear hK K)
  | fail)
  all_goals first
    | exact WS.drop (n := 0) rfl rfl
    | exact WS.c rfl rfl
    | (exfalso; omega)
    | trace_state
end Go.Proofs.YtpfagchhmfigfaaGreat.Calc

namespace Go.Proofs.YtpfagchhmfigfaaGreat.Calc
open Go
set_option linter.unusedVariables false
set_option linter.unusedSimpArgs false
instance (a b : Int) : Decidable (fitsP a b) := by unfold fitsP; infer_instance
instance (s : Stp) : Decidable (VStep s) := by unfold VStep; infer_instance
instance (c : Cyc) : Decidable (VCyc c) := by unfold VCyc; infer_instance
instance (l : List Cyc) : Decidable (VCycs l) := by unfold VCycs; infer_instance
def insB (x : Ins) : Bool := decide (0 ≤ x.op ∧ x.op ≤ 255) && vnmB x.name && decide (0 ≤ sizeM x.mode) && decide (VCycs x.cy) && decide (opnd x.cy = sizeM x.mode)
theorem ins_of (x : Ins) (h : insB x = true) : VIns x := by
  unfold insB at h
  simp only [Bool.and_eq_true, decide_eq_true_eq] at h
  obtain ⟨⟨⟨⟨h1, h2⟩, h3⟩, h4⟩, h5⟩ := h
  exact ⟨h1, vnm_of _ h2, h3, h4, h5⟩
theorem std_ins : stdM.ins.all insB = true := by decide +kernel
def insD : Ins := ⟨0, ⟨#[]⟩, 0, []⟩
theorem std_order : (List.range (stdM.ins.length - 1)).all (fun i => decide ((stdM.ins.getD i insD).op < (stdM.ins.getD (i + 1) insD).op)) = true := by decide +kernel
def keyI (x : Ins) : List Nat × Int := (x.name.data.toList.map (·.toNat), x.mode)
theorem std_once : (stdM.ins.map keyI).Nodup := by decide +kernel
theorem std_v : VCpu stdM := by
  refine ⟨vnm_of _ (by decide +kernel), by decide +kernel, fun x hx => ins_of x (List.all_eq_true.1 std_ins x hx), ?_, ?_, by decide +kernel, by decide +kernel, by decide +kernel⟩
  · intro i h
    have h1 := List.all_eq_true.1 std_order i (List.mem_range.2 (by omega))
    have h1 := of_decide_eq_true h1
    rw [List.getD_eq_getElem?_getD, List.getD_eq_getElem?_getD, List.getElem?_eq_getElem (by omega), List.getElem?_eq_getElem h] at h1
    exact h1
  · intro i j h hij ⟨e1, e2⟩
    have h1 := List.pairwise_iff_getElem.1 std_once i j (by rw [List.length_map]; omega) (by rw [List.length_map]; exact h) hij
    rw [List.getElem_map, List.getElem_map] at h1
    exact h1 (by unfold keyI; rw [e1, e2])
theorem src_v : ∀ j : Nat, j < 5 → 6 < (chipN j ++ sIrq).size ∧ (chipN j ++ sIrq).size ≤ 1000 ∧ firstIdx (chipN j ++ sIrq) 46 = 6 ∧ (chipN j ++ sIrq) ≠ ⟨#[46]⟩ ∧ (chipN j ++ sIrq).extract 0 6 = chipN j ∧ (chipN j ++ sIrq).extract (6 + 1) (chipN j ++ sIrq).size = ⟨#[105, 114, 113]⟩ := by decide +kernel
theorem src_inj : ∀ j : Nat, j < 5 → ∀ k : Nat, k < j → chipN k ++ sIrq ≠ chipN j ++ sIrq := by decide +kernel
structure WInv (i : Nat) (cs : List Chp) (ws : List Wir) : Prop where
  len : cs.length = i + 1
  num : ws.length ≤ i
  wr : ∀ w ∈ ws, ∃ j, j < i ∧ w = ⟨chipN j ++ sIrq, sCpuIrq⟩ ∧ ∃ c, cs[j + 1]? = some c ∧ (c.kind = 3 ∨ c.kind = 5 ∨ c.kind = 8)
  pw : ws.Pairwise fun a b => a.src ≠ b.src
theorem goBd_wires : ∀ (n i : Nat) (a : Int) (cs : List Chp) (ws : List Wir) (l : List Int), i + n ≤ 4 → WInv i cs ws → WInv (i + n) (goBd n i a cs ws l).1 (goBd n i a cs ws l).2.1 := by
  intro n
  induction n with
  | zero => intro i a cs ws l _ h; exact h
  | succ n ih =>
    intro i a cs ws l hn h
    unfold goBd
    generalize kdN (sval l 8).toNat = k at *
    have hc : (stepBd k i a (srest l 8)).1.kind = k := rfl
    have hw : (stepBd k i a (srest l 8)).2.1 = [] ∨ ((stepBd k i a (srest l 8)).2.1 = [⟨chipN i ++ sIrq, sCpuIrq⟩] ∧ ((k : Int) = 3 ∨ (k : Int) = 5 ∨ (k : Int) = 8)) := by
      show (wirB k (chipN i) _).1 = [] ∨ ((wirB k (chipN i) _).1 = _ ∧ _)
      unfold wirB
      by_cases h1 : k = 3 ∨ k = 5 ∨ k = 8
      · rw [if_pos h1]
        dsimp only
        split
        · exact .inr ⟨rfl, by omega⟩
        · exact .inl rfl
      · rw [if_neg h1]; exact .inl rfl
    generalize (stepBd k i a (srest l 8)).1 = c at *
    generalize (stepBd k i a (srest l 8)).2.1 = nw at *
    rw [show i + (n + 1) = i + 1 + n by omega]
    apply ih _ _ _ _ _ (by omega)
    have old : ∀ w ∈ ws, ∃ j, j < i + 1 ∧ w = ⟨chipN j ++ sIrq, sCpuIrq⟩ ∧ ∃ c', (cs ++ [c])[j + 1]? = some c' ∧ (c'.kind = 3 ∨ c'.kind = 5 ∨ c'.kind = 8) := fun w hw => by
      obtain ⟨j, h1, h2, c', h3, h4⟩ := h.wr w hw
      exact ⟨j, by omega, h2, c', by rw [List.getElem?_append_left (by rw [h.len]; omega)]; exact h3, h4⟩
    rcases hw with hw | ⟨hw, hk⟩
    · subst hw
      rw [List.append_nil]
      exact ⟨by rw [List.length_append, h.len]; rfl, by have := h.num; omega, old, h.pw⟩
    · subst hw
      refine ⟨by rw [List.length_append, h.len]; rfl, by have := h.num; rw [List.length_append, List.length_singleton]; omega, ?_, ?_⟩
      · intro w hw
        rcases List.mem_append.1 hw with hw | hw
        · exact old w hw
        · simp only [List.mem_singleton] at hw; subst hw
          exact ⟨i, by omega, rfl, c, by rw [← h.len]; simp, by rw [hc]; exact hk⟩
      · rw [List.pairwise_append]
        refine ⟨h.pw, List.pairwise_singleton .., fun x hx y hy => ?_⟩
        simp only [List.mem_singleton] at hy; subst hy
        obtain ⟨j, h1, h2, _⟩ := h.wr x hx
        subst h2
        exact src_inj i (by omega) j h1
theorem mkBrd_wires (l : List Int) : ∃ n, n ≤ 4 ∧ (mkBrd l).chips.length = n + 2 ∧ (mkBrd l).wires.length ≤ n ∧ (∀ w ∈ (mkBrd l).wires, ∃ j, j < n ∧ w = ⟨chipN j ++ sIrq, sCpuIrq⟩ ∧ ∃ c, (mkBrd l).chips[j + 1]? = some c ∧ c.name = chipN j ∧ (c.kind = 3 ∨ c.kind = 5 ∨ c.kind = 8)) ∧ (mkBrd l).wires.Pairwise fun a b => a.src ≠ b.src := by
  have r := sval_range l 5 (by decide)
  have h := goBd_wires (sval l 5).toNat 0 57344 [ramC] [] (srest l 5) (by omega) ⟨rfl, Nat.zero_le _, fun w hw => absurd hw (by simp), List.Pairwise.nil⟩
  obtain ⟨a', _, h2⟩ := goBd_place (sval l 5).toNat 0 57344 [ramC] [] (srest l 5) (by omega) (by decide) ⟨rfl, by
    intro c hc; simp only [List.mem_singleton] at hc; subst hc; decide, fun j k h hjk => absurd h (by simp; omega), fun j h => by
      have : j = 0 := by simp at h; omega
      subst this; rfl⟩
  rw [Nat.zero_add] at h h2
  refine ⟨(sval l 5).toNat, by omega, ?_, h.num, ?_, h.pw⟩
  · show ((goBd (sval l 5).toNat 0 57344 [ramC] [] (srest l 5)).1 ++ [_]).length = _
    rw [List.length_append, h.len]; rfl
  · intro w hw
    obtain ⟨j, h1, h3, c, h4, h5⟩ := h.wr w hw
    refine ⟨j, h1, h3, c, ?_, ?_, h5⟩
    · show ((goBd (sval l 5).toNat 0 57344 [ramC] [] (srest l 5)).1 ++ [_])[j + 1]? = _
      rw [List.getElem?_append_left (by rw [h.len]; omega)]; exact h4
    · obtain ⟨hj, e⟩ := List.getElem?_eq_some_iff.1 h4
      rw [← e, h2.names (j + 1) hj, if_neg (by omega)]; rfl
theorem mkBrd_v (l : List Int) : VBoard (mkBrd l) := by
  obtain ⟨hv, hn2, hn6⟩ := mkBrd_kinds l
  obtain ⟨hpl, hap⟩ := mkBrd_places l
  obtain ⟨n, h1, h2, h3, _⟩ := mkBrd_wires l
  exact ⟨vnm_of _ (by show vnmB ⟨#[98, 111, 97, 114, 100]⟩ = true; decide +kernel), std_v, by omega, hv, hpl, fun i j h hij => (hap i j h hij).1, by omega⟩
end Go.Proofs.YtpfagchhmfigfaaGreat.Calc

namespace Go.Proofs.YtpfagchhmfigfaaGreat.Calc
open Go Code
set_option linter.unusedSimpArgs false
set_option linter.unusedVariables false
set_option maxRecDepth 20000
set_option maxHeartbeats 4000000
attribute [local irreducible] WOpsT AW AK RK AKW UK UC
theorem ixW_ok (l : List Wir) (w : Wir) (hl : l.length ≤ 256) (hn : ∀ x ∈ l, x.src ≠ w.src) : FnE Tryz.prog 194 [.sl 2 (l.map wiV), .agg (wiV w)] [] (I (-1)) [] := by
  obtain ⟨w1, w2⟩ := w
  dsimp only [wiV] at hn ⊢
  refine N.fn Tryz.func194 k194 lb q194 fun Q hQ hQN => ?_
  rw [c194]
  repeat' (first
  | rw [List.length_map]
  | exact True.intro
  | refine fun (K : KT) hK => ?_
  | intro hcd
  | (refine go1 ?_ ?_ <;> try clear hK K)
  | fail)
  refine N.loop (σ := Nat) (fun j => [(0, .sl 2 (l.map wiV)), (3, .ptr 0 1 0 0), (7, I l.length), (8, I j)]) (fun j => [⟨1, 2, [[.c (.string w1), .c (.string w2)]]⟩]) (fun j => j ≤ l.length) (fun j => l.length - j) 0 (Nat.zero_le _) (Weaks.gc [0] 1 rfl (by repeat (first | exact trivial | refine ⟨.rfl, ?_⟩ | refine ⟨.any, ?_⟩)) (by first | rfl | (symm; unfold outH; simp only [List.map]; (repeat' (first | rfl | exact outB_bytes | exact outB_ints | exact outB_flat | refine consE ?_ ?_)); done))) fun j hj R hC => ?_
  by_cases hjl : j < l.length
  · have hm := mget wiV l j hjl
    have h1 := hn _ (List.getElem_mem hjl)
    generalize l[j] = x at *
    obtain ⟨x1, x2⟩ := x
    dsimp only [wiV] at hm h1
    have h2 : ¬ w1 = x1 := fun h => h1 h.symm
    repeat' (first
    | (show WOpsT _ (⟨_, .idx _ _ _ _, none⟩ :: _) _ _ _ _; refine T.idxs rfl rfl rfl (by omega) hm ?_)
    | (show WOpsT _ (⟨_, .eqs _ _ _ _, none⟩ :: _) _ _ _ _; refine T.eqs (b := false) rfl rfl (by simp [eqLv, eqC, h2]) ?_)
    | exact True.intro
    | refine fun (K : KT) hK => ?_
    | intro hcd
    | (refine go1 ?_ ?_ <;> try clear hK K)
    | fail)
    all_goals first
      | exact hC _ _ (j + 1) (by omega) (by omega) (Weaks.gc [0] 1 rfl (by repeat (first | exact trivial | refine ⟨.rfl, ?_⟩ | refine ⟨.any, ?_⟩)) (by first | rfl | (symm; unfold outH; simp only [List.map]; (repeat' (first | rfl | exact outB_bytes | exact outB_ints | exact outB_flat | refine consE ?_ ?_)); done)))
      | trace_state
  · obtain rfl : j = l.length := by omega
    repeat' (first
    | exact True.intro
    | refine fun (K : KT) hK => ?_
    | intro hcd
    | (refine go1 ?_ ?_ <;> try clear hK K)
    | fail)
    exact WS.c rfl rfl
theorem ctW_ok (l : List Wir) (w : Wir) (hl : l.length ≤ 256) (hn : ∀ x ∈ l, x.src ≠ w.src) : FnE Tryz.prog 112 [.sl 2 (l.map wiV), .agg (wiV w)] [] (.c (.bool false)) [] := by
  have hx := ixW_ok l w hl hn
  obtain ⟨w1, w2⟩ := w
  dsimp only [wiV] at hx ⊢
  refine N.fn Tryz.func112 k112 lb q112 fun Q hQ hQN => ?_
  rw [c112]
  repeat' (first
  | refine T.call0 e194 rfl (hx) ?_
  | exact True.intro
  | refine fun (K : KT) hK => ?_
  | intro hcd
  | (refine go1 ?_ ?_ <;> try clear hK K)
  | fail)
  all_goals first
    | exact WS.bool rfl (by decide)
    | exact WS.c rfl rfl
theorem mkcheck_ok (l : List Int) : FnE Tryz.prog 56 [.agg (boV (mkBrd l))] [] (I 0) [] := by
  obtain ⟨n, h1, h2, h3, h4, h5⟩ := mkBrd_wires l
  have hap := (mkBrd_places l).2
  refine bcheck_ok _ (mkBrd_v l) (fun w hw => ?_) (fun i hi => ?_)
  · obtain ⟨j, g1, g2, c, g3, g4, g5⟩ := h4 w hw
    obtain ⟨q1, q2, q3, q4, q5, q6⟩ := src_v j (by omega)
    obtain ⟨hj, e⟩ := List.getElem?_eq_some_iff.1 g3
    have hs : w.src = chipN j ++ sIrq := by rw [g2]
    refine wire_ok (mkBrd l) w (chipN j) 6 (j + 1) ?_ ?_ ?_ ?_ ?_ ?_ ?_ hj ?_ ?_ ?_ ?_
    · rw [hs]; exact q1
    · rw [hs]; exact q2
    · rw [hs]; exact q4
    · rw [hs]; exact q3
    · rw [hs]; exact q5
    · rw [hs]; exact q6
    · rw [g2]
    · rw [e]; exact g4
    · intro k hk hkl
      rw [← g4, ← e]
      exact (hap k (j + 1) hj hk).1.1
    · omega
    · rw [e]; exact g5
  · refine ctW_ok _ _ (by rw [List.length_take]; omega) fun x hx => ?_
    obtain ⟨k, hk, rfl⟩ := List.getElem_of_mem hx
    rw [List.length_take] at hk
    rw [List.getElem_take]
    exact List.pairwise_iff_getElem.1 h5 k i (by omega) hi (by omega)
end Go.Proofs.YtpfagchhmfigfaaGreat.Calc

namespace Go.Proofs.YtpfagchhmfigfaaGreat.Calc
open Go Code
set_option linter.unusedSimpArgs false
set_option linter.unusedVariables false
set_option maxRecDepth 20000
set_option maxHeartbeats 4000000
attribute [local irreducible] WOpsT AW AK RK AKW UK UC
theorem DvOk.ram {d : Dv} (h : DvOk ramC d) : ∃ m : List Int, d = ([], m) ∧ m.length = 768 ∧ Bytes m := by
  rcases h with ⟨z, hk, hs, h1, m, hm, hb⟩ | ⟨nb, hk, hs, h1, hd, n, hn, m, hm, hb⟩ | ⟨hk, hs, x, y, e, f, h⟩ | ⟨hk, hs, x, y, z, h⟩ | ⟨hk, hs, s1, l, g, f, o, e, n, z, h⟩ | ⟨hk, hs, p, q, m, h⟩ | ⟨hk, hs, x, y, hx, hy⟩ | ⟨nd, hk, hs, e, m, h⟩
  · refine ⟨m, rfl, ?_, hb⟩
    have : (768 : Int) = z := hs
    omega
  all_goals exact absurd hk (by decide)
theorem goBd_head : ∀ (n i : Nat) (a : Int) (c : Chp) (cs : List Chp) (ws : List Wir) (l : List Int), ∃ cs', (goBd n i a (c :: cs) ws l).1 = c :: cs' := by
  intro n
  induction n with
  | zero => intro i a c cs ws l; exact ⟨cs, rfl⟩
  | succ n ih => intro i a c cs ws l; unfold goBd; exact ih _ _ _ _ _ _
theorem mkBrd_ram (l : List Int) : ∃ cs, (mkBrd l).chips = ramC :: cs := by
  obtain ⟨cs', h⟩ := goBd_head (sval l 5).toNat 0 57344 ramC [] [] (srest l 5)
  exact ⟨cs' ++ [romC (bdOf l).2.2], by show (goBd (sval l 5).toNat 0 57344 [ramC] [] (srest l 5)).1 ++ [_] = _; rw [h]; rfl⟩
theorem mkBrd_gap (l : List Int) : ∀ c ∈ (mkBrd l).chips, hasA 60000 c = false := by
  have r := sval_range l 5 (by decide)
  obtain ⟨a', h1, h2⟩ := goBd_place (sval l 5).toNat 0 57344 [ramC] [] (srest l 5) (by omega) (by decide) ⟨rfl, by
    intro c hc; simp only [List.mem_singleton] at hc; subst hc; decide, fun j k h hjk => absurd h (by simp; omega), fun j h => by
      have : j = 0 := by simp at h; omega
      subst this; rfl⟩
  intro c hc
  rcases List.mem_append.1 hc with hc | hc
  · have := h2.lo c hc
    exact decide_eq_false (by omega)
  · simp only [List.mem_singleton] at hc; subst hc
    exact decide_eq_false (by show ¬ ((65280 : Int) ≤ 60000 ∧ _); omega)
theorem findR_none (cs : List Chp) (a : Int) (h : ∀ c ∈ cs, hasA a c = false) : findR cs a = .tup [I 0, I 0, .c (.bool false)] := by
  unfold findR findC
  rw [show cs.findIdx? (hasA a) = none from List.findIdx?_eq_none_iff.2 h]
theorem findR_ram (cs : List Chp) (a : Int) (h : 0 ≤ a ∧ a < 768) : findR (ramC :: cs) a = .tup [I (0 : Nat), I a, .c (.bool true)] := by
  have hh : hasA a ramC = true := decide_eq_true ⟨h.1, by show a < 0 + 768; omega⟩
  unfold findR findC
  rw [List.findIdx?_cons, hh]
  show V.tup [I (0 : Nat), I (a - 0), _] = _
  rw [Int.sub_zero]
theorem machines_go (B : Brd) (ds : List Dv) (hlen : ds.length = B.chips.length) (hbd : FnE Tryz.prog 20 [.c (.slice none 0 0)] [] (.agg (boV B)) []) (hnew : FnE Tryz.prog 21 [.agg (boV B)] [] (.tup [.agg (maV 0 rstR 258 0 false ds 0 0 0), I 0]) []) (hs : FnE Tryz.prog 28 [.agg (maV 0 rstR 258 0 false ds 0 0 0), .agg (maV 0 rstR 258 0 false ds 0 0 0)] [] (.c (.bool true)) []) : FnE Tryz.prog 35 [] [] (.c (.bool true)) [] := by
  obtain ⟨bn, ⟨nm, ins, r1, r2, r3⟩, cs, ws⟩ := B
  dsimp only at hlen
  unfold boV cpC at hbd hnew
  dsimp only [List.cons_append, List.nil_append, maV] at hbd hnew hs
  generalize rstR = r at *
  have z1 : spl [V.c (.string ⟨#[]⟩), .c (.string ⟨#[]⟩), .c (.slice none 0 0), .c (.slice none 0 0), .c (.slice none 0 0), .c (.slice none 0 0), .c (.slice none 0 0), .c (.slice none 0 0)] 0 [V.c (.string bn), .c (.string nm), .sl 4 (ins.map inC), .sl 4 (r1.map cyC), .sl 4 (r2.map cyC), .sl 4 (r3.map cyC), .sl 5 (cs.map chV), .sl 2 (ws.map wiV)] = [V.c (.string bn), .c (.string nm), .sl 4 (ins.map inC), .sl 4 (r1.map cyC), .sl 4 (r2.map cyC), .sl 4 (r3.map cyC), .sl 5 (cs.map chV), .sl 2 (ws.map wiV)] := rfl
  have z2 : List.take 8 [V.c (.string bn), .c (.string nm), .sl 4 (ins.map inC), .sl 4 (r1.map cyC), .sl 4 (r2.map cyC), .sl 4 (r3.map cyC), .sl 5 (cs.map chV), .sl 2 (ws.map wiV)] = [V.c (.string bn), .c (.string nm), .sl 4 (ins.map inC), .sl 4 (r1.map cyC), .sl 4 (r2.map cyC), .sl 4 (r3.map cyC), .sl 5 (cs.map chV), .sl 2 (ws.map wiV)] := rfl
  have z3 : spl [I 0, I 0, I 0, I 0, I 0, I 0, I 0, I 0, I 0, I 0, I 0, I 0, .c (.bool false), .c (.slice none 0 0), I 0, I 0, I 0] 0 [I 0, I (r 0), I (r 1), I (r 2), I (r 3), I (r 4), I (r 5), I (r 6), I (r 7), I (r 8), I 258, I 0, .c (.bool false), .sl 2 (ds.map dvC), I 0, I 0, I 0] = [I 0, I (r 0), I (r 1), I (r 2), I (r 3), I (r 4), I (r 5), I (r 6), I (r 7), I (r 8), I 258, I 0, .c (.bool false), .sl 2 (ds.map dvC), I 0, I 0, I 0] := rfl
  have z4 : List.take 17 [I 0, I (r 0), I (r 1), I (r 2), I (r 3), I (r 4), I (r 5), I (r 6), I (r 7), I (r 8), I 258, I 0, .c (.bool false), .sl 2 (ds.map dvC), I 0, I 0, I 0] = [I 0, I (r 0), I (r 1), I (r 2), I (r 3), I (r 4), I (r 5), I (r 6), I (r 7), I (r 8), I 258, I 0, .c (.bool false), .sl 2 (ds.map dvC), I 0, I 0, I 0] := rfl
  refine N.fn Tryz.func35 k35 lb q35 fun Q hQ hQN => ?_
  rw [c35]
  repeat' (first
  | rw [z1]
  | rw [z2]
  | rw [z3]
  | rw [z4]
  | rw [List.length_map]
  | rw [hlen]
  | (show WOpsT _ (⟨_, .call _ _, none⟩ :: _) _ _ _ _; first | refine T.call0 e20 rfl (hbd) ?_ | refine T.call0 e21 rfl (hnew) ?_ | refine T.call0 e28 rfl (hs) ?_)
  | exact True.intro
  | refine fun (K : KT) hK => ?_
  | intro hcd
  | (refine go1 ?_ ?_ <;> try clear hK K)
  | fail)
  all_goals first
    | exact WS.c rfl rfl
    | (exfalso; omega)
    | trace_state
theorem pokes_go (l : List Int) (a0 o0 v0 : Int) (B : Brd) (ds ds2 : List Dv) (hm : FnE Tryz.prog 35 [] [] (.c (.bool true)) []) (hbd : FnE Tryz.prog 20 [.sl 1 (cells l)] [] (.agg (boV B)) []) (hnew : FnE Tryz.prog 21 [.agg (boV B)] [] (.tup [.agg (maV 0 rstR 258 0 false ds 0 0 0), I 0]) [])
    (hpk : FnE Tryz.prog 34 [.agg (boV B), .agg (maV 0 rstR 258 0 false ds 0 0 0), I (a0 % 768), I (v0 % 256)] [] (.agg (maV 0 rstR 258 0 false ds2 0 0 0)) [])
    (hp1 : FnE Tryz.prog 36 [.agg (boV B), .agg (maV 0 rstR 258 0 false ds2 0 0 0), I (a0 % 768)] [] (I (v0 % 256)) [])
    (hp2 : o0 % 768 ≠ a0 % 768 → ∃ q, FnE Tryz.prog 36 [.agg (boV B), .agg (maV 0 rstR 258 0 false ds2 0 0 0), I (o0 % 768)] [] (I q) [] ∧ FnE Tryz.prog 36 [.agg (boV B), .agg (maV 0 rstR 258 0 false ds 0 0 0), I (o0 % 768)] [] (I q) [])
    (hp3 : FnE Tryz.prog 36 [.agg (boV B), .agg (maV 0 rstR 258 0 false ds2 0 0 0), I 60000] [] (I 255) []) : FnE Tryz.prog 6 [.sl 1 (cells l), I a0, I o0, I v0] [] (.c (.bool true)) [] := by
  have b1 := below_ok a0 768 (by decide) (by decide)
  have b2 := below_ok o0 768 (by decide) (by decide)
  have b3 := below_ok v0 256 (by decide) (by decide)
  obtain ⟨bn, ⟨nm, ins, r1, r2, r3⟩, cs, ws⟩ := B
  unfold boV cpC at hbd hnew hpk hp1 hp2 hp3
  dsimp only [List.cons_append, List.nil_append, maV] at hbd hnew hpk hp1 hp2 hp3
  generalize rstR = r at *
  have z1 : spl [V.c (.string ⟨#[]⟩), .c (.string ⟨#[]⟩), .c (.slice none 0 0), .c (.slice none 0 0), .c (.slice none 0 0), .c (.slice none 0 0), .c (.slice none 0 0), .c (.slice none 0 0)] 0 [V.c (.string bn), .c (.string nm), .sl 4 (ins.map inC), .sl 4 (r1.map cyC), .sl 4 (r2.map cyC), .sl 4 (r3.map cyC), .sl 5 (cs.map chV), .sl 2 (ws.map wiV)] = [V.c (.string bn), .c (.string nm), .sl 4 (ins.map inC), .sl 4 (r1.map cyC), .sl 4 (r2.map cyC), .sl 4 (r3.map cyC), .sl 5 (cs.map chV), .sl 2 (ws.map wiV)] := rfl
  have z2 : List.take 8 [V.c (.string bn), .c (.string nm), .sl 4 (ins.map inC), .sl 4 (r1.map cyC), .sl 4 (r2.map cyC), .sl 4 (r3.map cyC), .sl 5 (cs.map chV), .sl 2 (ws.map wiV)] = [V.c (.string bn), .c (.string nm), .sl 4 (ins.map inC), .sl 4 (r1.map cyC), .sl 4 (r2.map cyC), .sl 4 (r3.map cyC), .sl 5 (cs.map chV), .sl 2 (ws.map wiV)] := rfl
  have z3 : spl [I 0, I 0, I 0, I 0, I 0, I 0, I 0, I 0, I 0, I 0, I 0, I 0, .c (.bool false), .c (.slice none 0 0), I 0, I 0, I 0] 0 [I 0, I (r 0), I (r 1), I (r 2), I (r 3), I (r 4), I (r 5), I (r 6), I (r 7), I (r 8), I 258, I 0, .c (.bool false), .sl 2 (ds.map dvC), I 0, I 0, I 0] = [I 0, I (r 0), I (r 1), I (r 2), I (r 3), I (r 4), I (r 5), I (r 6), I (r 7), I (r 8), I 258, I 0, .c (.bool false), .sl 2 (ds.map dvC), I 0, I 0, I 0] := rfl
  have z4 : List.take 17 [I 0, I (r 0), I (r 1), I (r 2), I (r 3), I (r 4), I (r 5), I (r 6), I (r 7), I (r 8), I 258, I 0, .c (.bool false), .sl 2 (ds.map dvC), I 0, I 0, I 0] = [I 0, I (r 0), I (r 1), I (r 2), I (r 3), I (r 4), I (r 5), I (r 6), I (r 7), I (r 8), I 258, I 0, .c (.bool false), .sl 2 (ds.map dvC), I 0, I 0, I 0] := rfl
  have z5 : spl [I 0, I 0, I 0, I 0, I 0, I 0, I 0, I 0, I 0, I 0, I 0, I 0, .c (.bool false), .c (.slice none 0 0), I 0, I 0, I 0] 0 [I 0, I (r 0), I (r 1), I (r 2), I (r 3), I (r 4), I (r 5), I (r 6), I (r 7), I (r 8), I 258, I 0, .c (.bool false), .sl 2 (ds2.map dvC), I 0, I 0, I 0] = [I 0, I (r 0), I (r 1), I (r 2), I (r 3), I (r 4), I (r 5), I (r 6), I (r 7), I (r 8), I 258, I 0, .c (.bool false), .sl 2 (ds2.map dvC), I 0, I 0, I 0] := rfl
  have z6 : List.take 17 [I 0, I (r 0), I (r 1), I (r 2), I (r 3), I (r 4), I (r 5), I (r 6), I (r 7), I (r 8), I 258, I 0, .c (.bool false), .sl 2 (ds2.map dvC), I 0, I 0, I 0] = [I 0, I (r 0), I (r 1), I (r 2), I (r 3), I (r 4), I (r 5), I (r 6), I (r 7), I (r 8), I 258, I 0, .c (.bool false), .sl 2 (ds2.map dvC), I 0, I 0, I 0] := rfl
  generalize a0 % 768 = a at *
  generalize o0 % 768 = o at *
  generalize v0 % 256 = v at *
  by_cases ho : o = a
  · subst ho
    clear hp2
    refine N.fn Tryz.func6 k6 lb q6 fun Q hQ hQN => ?_
    rw [c6]
    repeat' (first
    | rw [z1]
    | rw [z2]
    | rw [z3]
    | rw [z4]
    | rw [z5]
    | rw [z6]
    | (show WOpsT _ (⟨_, .call _ _, none⟩ :: _) _ _ _ _; first | refine T.call0 e20 rfl (hbd) ?_ | refine T.call0 e21 rfl (hnew) ?_ | refine T.call0 e17 rfl (b1) ?_ | refine T.call0 e17 rfl (b2) ?_ | refine T.call0 e17 rfl (b3) ?_ | refine T.call0 e34 rfl (hpk) ?_ | refine T.call0 e35 rfl (hm) ?_ | refine T.call0 e36 rfl (hp1) ?_ | refine T.call0 e36 rfl (hp3) ?_)
    | exact True.intro
    | refine fun (K : KT) hK => ?_
    | intro hcd
    | (refine go1 ?_ ?_ <;> try clear hK K)
    | fail)
    all_goals first
      | exact WS.c rfl rfl
      | (exfalso; omega)
      | trace_state
  · obtain ⟨q, hq1, hq2⟩ := hp2 ho
    clear hp2
    refine N.fn Tryz.func6 k6 lb q6 fun Q hQ hQN => ?_
    rw [c6]
    repeat' (first
    | rw [z1]
    | rw [z2]
    | rw [z3]
    | rw [z4]
    | rw [z5]
    | rw [z6]
    | (show WOpsT _ (⟨_, .call _ _, none⟩ :: _) _ _ _ _; first | refine T.call0 e20 rfl (hbd) ?_ | refine T.call0 e21 rfl (hnew) ?_ | refine T.call0 e17 rfl (b1) ?_ | refine T.call0 e17 rfl (b2) ?_ | refine T.call0 e17 rfl (b3) ?_ | refine T.call0 e34 rfl (hpk) ?_ | refine T.call0 e35 rfl (hm) ?_ | refine T.call0 e36 rfl (hp1) ?_ | refine T.call0 e36 rfl (hq1) ?_ | refine T.call0 e36 rfl (hq2) ?_ | refine T.call0 e36 rfl (hp3) ?_)
    | exact True.intro
    | refine fun (K : KT) hK => ?_
    | intro hcd
    | (refine go1 ?_ ?_ <;> try clear hK K)
    | fail)
    all_goals first
      | exact WS.c rfl rfl
      | (exfalso; omega)
      | trace_state
theorem DvOk.sml {c : Chp} {d : Dv} (h : DvOk c d) : SmlD d := h.small
theorem newDs_sml (l : List Int) : ∀ d ∈ (mkBrd l).chips.map newV, SmlD d := by
  intro d hd
  obtain ⟨c, hc, rfl⟩ := List.mem_map.1 hd
  exact (newV_ok c ((mkBrd_kinds l).1 c hc)).1.sml
theorem mkNew_ok (l : List Int) : FnE Tryz.prog 21 [.agg (boV (mkBrd l))] [] (.tup [.agg (maV 0 rstR 258 0 false ((mkBrd l).chips.map newV) 0 0 0), I 0]) [] := by
  obtain ⟨hv, hn2, hn6⟩ := mkBrd_kinds l
  exact machNew_ok _ hv (mkcheck_ok l) (by omega) (by omega)
theorem machines_ok : FnE Tryz.prog 35 [] [] (.c (.bool true)) [] := by
  obtain ⟨hv, hn2, hn6⟩ := mkBrd_kinds []
  exact machines_go (mkBrd []) _ (List.length_map ..) (FnE.arg0 (mkBrd_ok []) .nil) (mkNew_ok []) (msame_ok _ _ _ _ _ _ _ _ _ (newDs_sml []) (by rw [List.length_map]; omega))
theorem pokes_ok (l : List Int) (a0 o0 v0 : Int) : FnE Tryz.prog 6 [.sl 1 (cells l), I a0, I o0, I v0] [] (.c (.bool true)) [] := by
  obtain ⟨hv, hn2, hn6⟩ := mkBrd_kinds l
  obtain ⟨hpl, _⟩ := mkBrd_places l
  obtain ⟨cs, hcs⟩ := mkBrd_ram l
  have hgap := mkBrd_gap l
  have hcs2 : ∀ c ∈ (mkBrd l).chips, 0 ≤ c.base ∧ c.base ≤ 65536 ∧ 1 ≤ c.size ∧ c.size ≤ 65536 := fun c hc => by
    have h1 := (hv c hc).size
    have h2 := (hpl c hc).lo
    have h3 := (hpl c hc).hi
    omega
  have hds := newDs_sml l
  have hnew := mkNew_ok l
  have hbd := mkBrd_ok l
  have hram : DvOk ramC (newV ramC) := (newV_ok ramC (hv ramC (by rw [hcs]; exact List.mem_cons_self ..))).1
  obtain ⟨m, hm, hm1, hm2⟩ := hram.ram
  have ra : 0 ≤ a0 % 768 ∧ a0 % 768 < 768 := by omega
  have ro : 0 ≤ o0 % 768 ∧ o0 % 768 < 768 := by omega
  have rv : 0 ≤ v0 % 256 ∧ v0 % 256 < 256 := by omega
  have hm3 : Bytes (m.set (a0 % 768).toNat (v0 % 256 % 256)) := hm2.set _ _ (by omega)
  have hlen : ((mkBrd l).chips.map newV).length = (mkBrd l).chips.length := List.length_map ..
  refine pokes_go l a0 o0 v0 (mkBrd l) _ (((mkBrd l).chips.map newV).set 0 ([], m.set (a0 % 768).toNat (v0 % 256 % 256))) machines_ok hbd hnew ?_ ?_ ?_ ?_
  · refine poke_ok (mkBrd l) _ _ _ _ _ _ _ _ _ _ _ (by omega) hcs2 (by omega) hlen hds 0 (by omega) (a0 % 768) (by rw [hcs]; exact findR_ram cs _ ra) ?_ _ ?_
    · simp only [hcs, List.getElem_cons_zero]; decide
    · simp only [hcs, List.map_cons, List.getElem_cons_zero, hm]
      exact chWr0 ⟨#[114, 97, 109]⟩ 0 [] 768 (by decide) m hm1 _ ra _
  · refine peek_ok (mkBrd l) _ _ _ _ _ _ _ _ _ _ (by omega) hcs2 (by omega) (by rw [List.length_set]; exact hlen) 0 (by omega) (a0 % 768) (by rw [hcs]; exact findR_ram cs _ ra) ?_ ([], m.set (a0 % 768).toNat (v0 % 256 % 256)) _ ?_
    · simp only [hcs, List.getElem_cons_zero]; decide
    · simp only [hcs, List.map_cons, List.getElem_cons_zero, List.set_cons_zero]
      have h := chRd0 ⟨#[114, 97, 109]⟩ 0 [] 0 768 (.inl rfl) (by decide) (m.set (a0 % 768).toNat (v0 % 256 % 256)) (by rw [List.length_set]; exact hm1) hm3 (a0 % 768) ra
      rw [getD_set, if_pos ⟨rfl, by omega⟩, show v0 % 256 % 256 = v0 % 256 by omega] at h
      rw [show v0 % 256 % 256 = v0 % 256 by omega]
      exact h
  · intro hne
    refine ⟨m.getD (o0 % 768).toNat 0, ?_, ?_⟩
    · refine peek_ok (mkBrd l) _ _ _ _ _ _ _ _ _ _ (by omega) hcs2 (by omega) (by rw [List.length_set]; exact hlen) 0 (by omega) (o0 % 768) (by rw [hcs]; exact findR_ram cs _ ro) ?_ ([], m.set (a0 % 768).toNat (v0 % 256 % 256)) _ ?_
      · simp only [hcs, List.getElem_cons_zero]; decide
      · simp only [hcs, List.map_cons, List.getElem_cons_zero, List.set_cons_zero]
        have h := chRd0 ⟨#[114, 97, 109]⟩ 0 [] 0 768 (.inl rfl) (by decide) (m.set (a0 % 768).toNat (v0 % 256 % 256)) (by rw [List.length_set]; exact hm1) hm3 (o0 % 768) ro
        rw [getD_set, if_neg (by omega)] at h
        exact h
    · refine peek_ok (mkBrd l) _ _ _ _ _ _ _ _ _ _ (by omega) hcs2 (by omega) hlen 0 (by omega) (o0 % 768) (by rw [hcs]; exact findR_ram cs _ ro) ?_ ([], m) _ ?_
      · simp only [hcs, List.getElem_cons_zero]; decide
      · simp only [hcs, List.map_cons, List.getElem_cons_zero, hm]
        exact chRd0 ⟨#[114, 97, 109]⟩ 0 [] 0 768 (.inl rfl) (by decide) m hm1 hm2 (o0 % 768) ro
  · exact peekN_ok (mkBrd l) _ _ _ _ _ _ _ _ _ _ (by decide) hcs2 (by omega) (findR_none _ _ hgap)
end Go.Proofs.YtpfagchhmfigfaaGreat.Calc

