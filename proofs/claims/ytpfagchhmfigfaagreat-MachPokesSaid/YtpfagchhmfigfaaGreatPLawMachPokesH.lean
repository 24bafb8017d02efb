/- Several texts in one (FnProg, FnProgB, FnDrive, FnDriveB, FnDriveD, FnRom, PureBoard), for the proof of LawMachPokes. No condition beyond those in each lemma. -/
import Derived.Test.YtpfagchhmfigfaaGreatPLawMachPokesF
import Derived.Test.YtpfagchhmfigfaaGreatPLawMachPokesG
import Derived.Test.YtpfagchhmfigfaaGreatPLawMachPokesE
import Derived.Test.YtpfagchhmfigfaaGreatPLawMachPokesD
namespace Go.Proofs.YtpfagchhmfigfaaGreat.Calc
open Go Code
set_option linter.unusedSimpArgs false
set_option linter.unusedVariables false
set_option maxRecDepth 20000
set_option maxHeartbeats 4000000
attribute [local irreducible] WOpsT AW AK RK AKW UK UC
theorem gotM_at (p : Ins → Bool) (l : List Ins) (i : Nat) (hi : i < l.length) (h : ∀ j, j < i → ∀ hj : j < l.length, p l[j] = false) (hp : p l[i] = true) : gotM p l = (l[i], true) := by
  unfold gotM
  rw [show l.findIdx? p = some i from List.findIdx?_eq_some_iff_getElem.2 ⟨hi, hp, fun j hj => by rw [h j hj (by omega)]; decide⟩]
  simp [hi]
theorem gotM_none (p : Ins → Bool) (l : List Ins) (h : ∀ j, ∀ hj : j < l.length, p l[j] = false) : gotM p l = (insZ, false) := by
  unfold gotM
  rw [show l.findIdx? p = none from List.findIdx?_eq_none_iff.2 fun x hx => by obtain ⟨j, hj, rfl⟩ := List.getElem_of_mem hx; exact h j hj]
theorem stdM_ops : stdM.ins.length = 92 ∧ (∀ x ∈ stdM.ins, 0 ≤ x.op ∧ x.op < 256) ∧ ∀ x ∈ stdM.ins, 0 ≤ x.mode ∧ x.mode < 9 := by
  have h : (stdM.ins.length == 92 && stdM.ins.all (fun x => decide (0 ≤ x.op ∧ x.op < 256)) && stdM.ins.all (fun x => decide (0 ≤ x.mode ∧ x.mode < 9))) = true := by decide +kernel
  rw [Bool.and_eq_true, Bool.and_eq_true] at h
  refine ⟨by simpa using h.1.1, fun x hx => ?_, fun x hx => ?_⟩
  · simpa using List.all_eq_true.1 h.1.2 x hx
  · simpa using List.all_eq_true.1 h.2 x hx
def opV (s : ByteArray) (m : Int) : Int := (gotM (fun x => decide (x.name = s ∧ x.mode = m)) stdM.ins).1.op
theorem opV_range (s : ByteArray) (m : Int) : 0 ≤ opV s m ∧ opV s m < 256 := by
  obtain ⟨h1, h2, _⟩ := stdM_ops
  unfold opV gotM
  split
  · rename_i i hi
    have hl := (List.findIdx?_eq_some_iff_getElem.1 hi).1
    dsimp only
    rw [show stdM.ins.getD i insZ = stdM.ins[i] by simp [hl]]
    exact h2 _ (List.getElem_mem hl)
  · exact ⟨by decide, by decide⟩
theorem op_ok (s : ByteArray) (m : Int) : FnE Tryz.prog 107 [.c (.string s), I m] [] (.c (.int .u8 (opV s m))) [] := by
  have hcpu := stdCpu_ok
  obtain ⟨hl, hop, _⟩ := stdM_ops
  have hr := opV_range s m
  unfold opV at hr ⊢
  generalize hg : gotM (fun x => decide (x.name = s ∧ x.mode = m)) stdM.ins = g at *
  generalize stdM = c at *
  obtain ⟨nm, ins, r1, r2, r3⟩ := c
  dsimp only at hl hop hg
  refine N.fn Tryz.func107 k107 lb q107 fun Q hQ hQN => ?_
  rw [c107]
  repeat' (first
  | rw [List.length_map]
  | refine T.call0 e52 rfl (hcpu) ?_
  | exact True.intro
  | refine fun (K : KT) hK => ?_
  | intro hcd
  | (refine go1 ?_ ?_ <;> try clear hK K)
  | fail)
  refine N.loop (σ := Nat) (fun i => [(0, .c (.string s)), (1, I m), (8, .sl 4 (ins.map inC)), (9, I ins.length), (10, I i)]) (fun i => []) (fun i => i ≤ ins.length ∧ ∀ j, j < i → ∀ hj : j < ins.length, decide (ins[j].name = s ∧ ins[j].mode = m) = false) (fun i => ins.length - i) 0 ⟨by omega, fun j hj => absurd hj (by omega)⟩ (Weaks.sel (by repeat (first | exact trivial | refine ⟨.rfl, ?_⟩ | refine ⟨.any, ?_⟩)) rfl) fun i hi R hC => ?_
  obtain ⟨hi, hn⟩ := hi
  by_cases hil : i < ins.length
  · have hm := mget inC ins i hil
    have hop := hop _ (List.getElem_mem hil)
    have hgt : decide (ins[i].name = s ∧ ins[i].mode = m) = true → g = (ins[i], true) := fun h => by rw [← hg]; exact gotM_at _ ins i hil hn h
    have hgf : decide (ins[i].name = s ∧ ins[i].mode = m) = false → ∀ j, j < i + 1 → ∀ hj : j < ins.length, decide (ins[j].name = s ∧ ins[j].mode = m) = false := fun h j hj hjl => by
      by_cases hji : j = i
      · subst hji; exact h
      · exact hn j (by omega) hjl
    generalize ins[i] = w at *
    obtain ⟨o, t, q, cy⟩ := w
    dsimp only at hm hop hgt hgf
    have hw := wrap_u8 o hop
    repeat' (first
    | (show WOpsT _ (⟨_, .idx _ _ _ _, none⟩ :: _) _ _ _ _; refine T.idxs rfl rfl rfl (by omega) hm ?_)
    | rw [hw]
    | exact True.intro
    | refine fun (K : KT) hK => ?_
    | intro hcd
    | (refine go1 ?_ ?_ <;> try clear hK K)
    | fail)
    all_goals first
      | (exfalso; omega)
      | (rw [hgt (decide_eq_true ⟨by assumption, by assumption⟩)]; exact WS.c rfl rfl)
      | exact hC _ _ (i + 1) ⟨by omega, hgf (decide_eq_false (by simp [*]))⟩ (by omega) (Weaks.gc [] 1 rfl (by repeat (first | exact trivial | refine ⟨.rfl, ?_⟩ | refine ⟨.any, ?_⟩)) (by first | rfl | (symm; unfold outH; simp only [List.map]; (repeat' (first | rfl | exact outB_bytes | exact outB_ints | exact outB_flat | refine consE ?_ ?_)); done)))
  · obtain rfl : i = ins.length := by omega
    rw [gotM_none _ ins fun j hj => hn j hj hj] at hg
    subst hg
    repeat' (first
    | exact True.intro
    | refine fun (K : KT) hK => ?_
    | intro hcd
    | (refine go1 ?_ ?_ <;> try clear hK K)
    | fail)
    exact WS.c rfl rfl
def namV (s : ByteArray) : Int := max (opV s 0) (opV s 4)
theorem namV_range (s : ByteArray) : 0 ≤ namV s ∧ namV s < 256 := by
  have h1 := opV_range s 0
  have h2 := opV_range s 4
  unfold namV; omega
theorem named_m (s : ByteArray) : FnE Tryz.prog 106 [.c (.string s)] [] (.c (.int .u8 (namV s))) [] := by
  have h1 := op_ok s 0
  have h2 := op_ok s 4
  unfold namV
  refine N.fn Tryz.func106 k106 lb q106 fun Q hQ hQN => ?_
  rw [c106]
  repeat' (first
  | (show WOpsT _ (⟨_, .call _ _, none⟩ :: _) _ _ _ _; first | refine T.call0 e107 rfl (h1) ?_ | refine T.call0 e107 rfl (h2) ?_)
  | exact True.intro
  | refine fun (K : KT) hK => ?_
  | intro hcd
  | (refine go1 ?_ ?_ <;> try clear hK K)
  | fail)
  exact WS.c rfl rfl
theorem wrapB (n : Int) : 0 ≤ IntKind.wrap .u8 n ∧ IntKind.wrap .u8 n < 256 := by
  simp only [IntKind.wrap, IntKind.signed, IntKind.bits]
  simp
  try omega
theorem Bytes.nil : Bytes [] := fun i => ⟨Int.le_refl 0, by show (0 : Int) < 256; decide⟩
theorem Bytes.cons {m : List Int} {v : Int} (h : Bytes m) (hv : 0 ≤ v ∧ v < 256) : Bytes (v :: m) := by
  intro i
  cases i with
  | zero => exact hv
  | succ i => exact h i
theorem Bytes.append {m n : List Int} (h : Bytes m) (k : Bytes n) : Bytes (m ++ n) := by
  intro i
  rw [List.getD_eq_getElem?_getD]
  by_cases hi : i < m.length
  · rw [List.getElem?_append_left hi, ← List.getD_eq_getElem?_getD]; exact h i
  · rw [List.getElem?_append_right (by omega), ← List.getD_eq_getElem?_getD]; exact k _
theorem srest_le (l : List Int) (n : Int) : (srest l n).length ≤ l.length := by
  unfold srest; split
  · exact Nat.le_refl _
  · rw [List.length_tail]; omega
theorem WS.byte1 {k : Nat} {h : List Blk} {h' : List Blk} {x y : Blk} (v : Int) (h0 : h = [x, y, ⟨1, 1, [[.c (.int .u8 v)]]⟩]) (he : h' = [outB h [0] 1 x]) (hk : k = 1) : WeakS k (.psl 2 1 0 1) h (.sl 1 (bcells [v])) h' := by
  subst h0; subst he; subst hk
  exact WS.gc [0] 1 rfl rfl (by rw [out_bytesK (m := [v]) (len := 1) rfl rfl (Nat.le_refl _)]; exact .rfl)
theorem WS.byte2 {k : Nat} {h : List Blk} {h' : List Blk} {x y : Blk} (v w : Int) (h0 : h = [x, y, ⟨1, 1, [[.c (.int .u8 v)], [.c (.int .u8 w)]]⟩]) (he : h' = [outB h [0] 1 x]) (hk : k = 1) : WeakS k (.psl 2 1 0 2) h (.sl 1 (bcells [v, w])) h' := by
  subst h0; subst he; subst hk
  exact WS.gc [0] 1 rfl rfl (by rw [out_bytesK (m := [v, w]) (len := 2) rfl rfl (Nat.le_refl _)]; exact .rfl)
theorem operand_ex (x : Ins) (hm : 0 ≤ x.mode ∧ x.mode < 9) (l : List Int) : ∃ p : List Int × List Int, p.1.length ≤ 2 ∧ Bytes p.1 ∧ p.2.length ≤ l.length ∧ FnE Tryz.prog 183 [.ptr 0 1 0 0, .agg (inC x)] [strB l] (.sl 1 (bcells p.1)) [strB p.2] := by
  obtain ⟨o, s, m, cy⟩ := x
  dsimp only at hm
  have b1 : ∀ v, Bytes [IntKind.wrap .u8 v] := fun v => Bytes.nil.cons (wrapB v)
  have b2 : ∀ v w, Bytes [IntKind.wrap .u8 v, IntKind.wrap .u8 w] := fun v w => (b1 w).cons (wrapB v)
  have n1 := next_ok l 256 (by decide)
  have n2 := next_ok l 16 (by decide)
  have n3 := next_ok l 8 (by decide)
  have n4 := next_ok l 48 (by decide)
  have r4 := sval_range l 48 (by decide)
  have r3 := sval_range l 8 (by decide)
  have len : ∀ n : Int, (srest l n).length ≤ l.length := fun n => srest_le l n
  have len2 : ∀ n q : Int, (srest (srest l n) q).length ≤ l.length := fun n q => Nat.le_trans (srest_le _ q) (srest_le l n)
  have len3 : ∀ n q t : Int, (srest (srest (srest l n) q) t).length ≤ l.length := fun n q t => Nat.le_trans (srest_le _ t) (len2 n q)
  obtain rfl | rfl | h | rfl | h : m = 0 ∨ m = 1 ∨ (m = 2 ∨ m = 3 ∨ m = 8) ∨ m = 7 ∨ (m = 4 ∨ m = 5 ∨ m = 6) := by omega
  · refine ⟨([], l), lb, Bytes.nil, Nat.le_refl _, ?_⟩
    refine N.fn Tryz.func183 k183 lb q183 fun Q hQ hQN => ?_
    rw [c183]
    repeat' (first
    | exact True.intro
    | refine fun (K : KT) hK => ?_
    | intro hcd
    | (refine go1 ?_ ?_ <;> try clear hK K)
    | fail)
    exact WS.gc [0] 1 rfl rfl .nil
  · refine ⟨([IntKind.wrap .u8 (sval l 256)], srest l 256), lb, b1 _, len 256, ?_⟩
    refine N.fn Tryz.func183 k183 lb q183 fun Q hQ hQN => ?_
    rw [c183]
    repeat' (first
    | refine T.call1 0 e53 rfl rfl (n1) ?_
    | exact True.intro
    | refine fun (K : KT) hK => ?_
    | intro hcd
    | (refine go1 ?_ ?_ <;> try clear hK K)
    | fail)
    exact WS.byte1 _ rfl rfl rfl
  · refine ⟨([IntKind.wrap .u8 (sval l 16)], srest l 16), lb, b1 _, len 16, ?_⟩
    rcases h with rfl | rfl | rfl
    all_goals
      refine N.fn Tryz.func183 k183 lb q183 fun Q hQ hQN => ?_
      rw [c183]
      repeat' (first
      | refine T.call1 0 e53 rfl rfl (n2) ?_
      | exact True.intro
      | refine fun (K : KT) hK => ?_
      | intro hcd
      | (refine go1 ?_ ?_ <;> try clear hK K)
      | fail)
      exact WS.byte1 _ rfl rfl rfl
  · refine ⟨([IntKind.wrap .u8 (sval l 8 - 3)], srest l 8), lb, b1 _, len 8, ?_⟩
    refine N.fn Tryz.func183 k183 lb q183 fun Q hQ hQN => ?_
    rw [c183]
    repeat' (first
    | refine T.call1 0 e53 rfl rfl (n3) ?_
    | exact True.intro
    | refine fun (K : KT) hK => ?_
    | intro hcd
    | (refine go1 ?_ ?_ <;> try clear hK K)
    | fail)
    exact WS.byte1 _ rfl rfl rfl
  · have n5 := next_ok (srest l 48) 64 (by decide)
    have r5 := sval_range (srest l 48) 64 (by decide)
    have n6 := next_ok (srest l 48) 3 (by decide)
    have n7 := next_ok (srest (srest l 48) 3) 64 (by decide)
    have r7 := sval_range (srest (srest l 48) 3) 64 (by decide)
    by_cases hj : s = ⟨#[106, 109, 112]⟩ ∨ s = ⟨#[106, 115, 114]⟩
    · refine ⟨([IntKind.wrap .u8 (65280 + sval (srest l 48) 64), IntKind.wrap .u8 ((65280 + sval (srest l 48) 64) / 256)], srest (srest l 48) 64), lb, b2 _ _, len2 48 64, ?_⟩
      have e : ∀ v : Int, v / 2 ^ min (Int.toNat 8) IntKind.i64.bits = v / 256 := fun _ => rfl
      rcases h with rfl | rfl | rfl <;> rcases hj with rfl | rfl
      all_goals
        refine N.fn Tryz.func183 k183 lb q183 fun Q hQ hQN => ?_
        rw [c183]
        repeat' (first
        | rw [e]
        | (show WOpsT _ (⟨_, .call _ _, none⟩ :: _) _ _ _ _; first | refine T.call1 0 e53 rfl rfl (n4) ?_ | refine T.call1 0 e53 rfl rfl (n5) ?_)
        | exact True.intro
        | refine fun (K : KT) hK => ?_
        | intro hcd
        | (refine go1 ?_ ?_ <;> try clear hK K)
        | fail)
        exact WS.byte2 _ _ rfl rfl rfl
    · have e : ∀ v : Int, v / 2 ^ min (Int.toNat 8) IntKind.i64.bits = v / 256 := fun _ => rfl
      have h1 : decide (s = ⟨#[106, 109, 112]⟩) = false := decide_eq_false fun h => hj (.inl h)
      have h2 : decide (s = ⟨#[106, 115, 114]⟩) = false := decide_eq_false fun h => hj (.inr h)
      by_cases hz : sval (srest l 48) 3 = 0
      · refine ⟨([IntKind.wrap .u8 (512 + sval (srest (srest l 48) 3) 64), IntKind.wrap .u8 ((512 + sval (srest (srest l 48) 3) 64) / 256)], srest (srest (srest l 48) 3) 64), lb, b2 _ _, len3 48 3 64, ?_⟩
        rcases h with rfl | rfl | rfl
        all_goals
          refine N.fn Tryz.func183 k183 lb q183 fun Q hQ hQN => ?_
          rw [c183]
          repeat' (first
          | rw [e]
          | rw [h1]
          | rw [h2]
          | (show WOpsT _ (⟨_, .call _ _, none⟩ :: _) _ _ _ _; first | refine T.call1 0 e53 rfl rfl (n4) ?_ | refine T.call1 0 e53 rfl rfl (n6) ?_ | refine T.call1 0 e53 rfl rfl (n7) ?_)
          | exact True.intro
          | refine fun (K : KT) hK => ?_
          | intro hcd
          | (refine go1 ?_ ?_ <;> try clear hK K)
          | fail)
          exact WS.byte2 _ _ rfl rfl rfl
      · refine ⟨([IntKind.wrap .u8 (57344 + sval l 48), IntKind.wrap .u8 ((57344 + sval l 48) / 256)], srest (srest l 48) 3), lb, b2 _ _, len2 48 3, ?_⟩
        rcases h with rfl | rfl | rfl
        all_goals
          refine N.fn Tryz.func183 k183 lb q183 fun Q hQ hQN => ?_
          rw [c183]
          repeat' (first
          | rw [e]
          | rw [h1]
          | rw [h2]
          | (show WOpsT _ (⟨_, .call _ _, none⟩ :: _) _ _ _ _; first | refine T.call1 0 e53 rfl rfl (n4) ?_ | refine T.call1 0 e53 rfl rfl (n6) ?_)
          | exact True.intro
          | refine fun (K : KT) hK => ?_
          | intro hcd
          | (refine go1 ?_ ?_ <;> try clear hK K)
          | fail)
          exact WS.byte2 _ _ rfl rfl rfl
end Go.Proofs.YtpfagchhmfigfaaGreat.Calc

namespace Go.Proofs.YtpfagchhmfigfaaGreat.Calc
open Go Code
set_option linter.unusedSimpArgs false
set_option linter.unusedVariables false
set_option maxRecDepth 20000
set_option maxHeartbeats 4000000
attribute [local irreducible] WOpsT AW AK RK AKW UK UC
section
variable {P : Program} {rest : List AOper} {tr : Tr} {fr : Fr} {h : List Blk} {K : KT} {d : Option Nat}
theorem T.appBs {bytes : Nat} {s x : AO} {b ver len : Nat} {xs ys : List Int} (hs : s.ev (lk fr) = .psl b ver 0 len) (hb : h[b]? = some ⟨ver, 1, bcells xs⟩) (hx : srcOf (fun b => h[b]?) 1 (x.ev (lk fr)) = some (1, bcells ys)) (hl : len = xs.length)
    (hn : 0 < bytes ∧ bytes * (len + ys.length + (len + ys.length) / 4 + 1024) ≤ 2 ^ 48)
    (hK : WOpsT P rest (tr ++ [(b :: vlook (x.ev (lk fr)), [b])]) (put fr d (.psl b (ver + 1) 0 (len + ys.length))) (h.set b ⟨ver + 1, 1, bcells (xs ++ ys)⟩) K) : WOpsT P (⟨d, .app 1 bytes s x, none⟩ :: rest) tr fr h K :=
  T.app hs hb hx ⟨by decide, hn.1⟩ ⟨rfl, rfl, by simp [bcells_len, hl], by rw [bcells_len]; exact hn.2⟩ (by
    have e : (bcells xs).drop 0 ++ bcells ys = bcells (xs ++ ys) := by simp [bcells]
    dsimp only
    rw [e, bcells_len]; exact hK)
theorem src_b {bl : Nat → Option Blk} {b ver len : Nat} {ys : List Int} (hb : bl b = some ⟨ver, 1, bcells ys⟩) (hl : ys.length ≤ len) : srcOf bl 1 (.psl b ver 0 len) = some (1, bcells ys) := by
  unfold srcOf rowsOf
  simp only [hb]
  rw [if_pos trivial, List.drop_zero, List.take_of_length_le (by rw [bcells_len]; exact hl)]
end
noncomputable def oprB (x : Ins) (l : List Int) : List Int × List Int := if h : 0 ≤ x.mode ∧ x.mode < 9 then (operand_ex x h l).choose else ([], l)
theorem oprB_ok (x : Ins) (h : 0 ≤ x.mode ∧ x.mode < 9) (l : List Int) : (oprB x l).1.length ≤ 2 ∧ Bytes (oprB x l).1 ∧ (oprB x l).2.length ≤ l.length ∧ FnE Tryz.prog 183 [.ptr 0 1 0 0, .agg (inC x)] [strB l] (.sl 1 (bcells (oprB x l).1)) [strB (oprB x l).2] := by
  unfold oprB; rw [dif_pos h]; exact (operand_ex x h l).choose_spec
noncomputable def goProg (ins : List Ins) (size : Nat) : Nat → List Int → List Int → List Int × List Int
  | 0, acc, l => (acc, l)
  | f + 1, acc, l => if l.length = 0 then (acc, l) else
      if acc.length + (1 + (oprB (ins.getD (sval l ins.length).toNat insZ) (srest l ins.length)).1.length) > size then (acc, (oprB (ins.getD (sval l ins.length).toNat insZ) (srest l ins.length)).2)
      else goProg ins size f (acc ++ ([IntKind.wrap .u8 (ins.getD (sval l ins.length).toNat insZ).op] ++ (oprB (ins.getD (sval l ins.length).toNat insZ) (srest l ins.length)).1)) (oprB (ins.getD (sval l ins.length).toNat insZ) (srest l ins.length)).2
theorem goProg_spec (ins : List Ins) (size : Nat) (hm : ∀ x ∈ ins, 0 ≤ x.mode ∧ x.mode < 9) (h0 : 0 < ins.length) : ∀ (f : Nat) (acc l : List Int), acc.length ≤ size → Bytes acc → (goProg ins size f acc l).1.length ≤ size ∧ Bytes (goProg ins size f acc l).1 ∧ (goProg ins size f acc l).2.length ≤ l.length := by
  intro f
  induction f with
  | zero => intro acc l h1 h2; exact ⟨h1, h2, Nat.le_refl _⟩
  | succ f ih =>
    intro acc l h1 h2
    have hr := sval_range l ins.length (by omega)
    have hx : 0 ≤ (ins.getD (sval l ins.length).toNat insZ).mode ∧ (ins.getD (sval l ins.length).toNat insZ).mode < 9 := by
      have : (sval l ins.length).toNat < ins.length := by omega
      rw [show ins.getD (sval l ins.length).toNat insZ = ins[(sval l ins.length).toNat] by simp [this]]
      exact hm _ (List.getElem_mem this)
    obtain ⟨g1, g2, g3, _⟩ := oprB_ok _ hx (srest l ins.length)
    have g4 := srest_le l ins.length
    unfold goProg
    split
    · exact ⟨h1, h2, Nat.le_refl _⟩
    · split
      · exact ⟨h1, h2, by dsimp only; omega⟩
      · obtain ⟨i1, i2, i3⟩ := ih (acc ++ ([IntKind.wrap .u8 (ins.getD (sval l ins.length).toNat insZ).op] ++ (oprB (ins.getD (sval l ins.length).toNat insZ) (srest l ins.length)).1)) (oprB (ins.getD (sval l ins.length).toNat insZ) (srest l ins.length)).2 (by simp only [List.length_append, List.length_cons, List.length_nil]; omega) (h2.append ((Bytes.nil.cons (wrapB _)).append g2))
        exact ⟨i1, i2, by omega⟩
theorem program_ex (l0 : List Int) (size : Nat) (hs : size ≤ 1000) : ∃ p : List Int × List Int, p.1.length ≤ size ∧ Bytes p.1 ∧ p.2.length ≤ l0.length ∧ FnE Tryz.prog 105 [.ptr 0 1 0 0, I size] [strB l0] (.sl 1 (bcells p.1)) [strB p.2] := by
  have hcpu := stdCpu_ok
  obtain ⟨hl, hop, hmo⟩ := stdM_ops
  have hsp := goProg_spec stdM.ins size hmo (by omega) l0.length [] l0 (Nat.zero_le _) Bytes.nil
  refine ⟨goProg stdM.ins size l0.length [] l0, hsp.1, hsp.2.1, hsp.2.2, ?_⟩
  generalize hg : goProg stdM.ins size l0.length [] l0 = G at *
  generalize stdM = c at *
  obtain ⟨nm, ins, r1, r2, r3⟩ := c
  dsimp only at hl hop hmo hg
  have h0 : 0 < ins.length := by omega
  have hl92 : (ins.length : Int) = 92 := by omega
  refine N.fn Tryz.func105 k105 lb q105 fun Q hQ hQN => ?_
  rw [c105]
  repeat' (first
  | rw [cp_t5]
  | rw [cp_z]
  | refine T.call0 e52 rfl (hcpu) ?_
  | exact True.intro
  | refine fun (K : KT) hK => ?_
  | intro hcd
  | (refine goB ?_ ?_ <;> try clear hK K)
  | fail)
  refine N.blockC [(6, .sl 1 (bcells G.1))] [strB G.2] rfl (fun C hC => ?_) ?_
  · refine N.loop (σ := Nat × List Int × List Int × Nat) (fun s => [(0, .ptr 0 1 0 0), (1, I size), (5, .ptr 1 1 0 0), (6, .psl 2 s.1 0 s.2.1.length)]) (fun s => [strB s.2.2.1, ⟨1, 5, [cpC ⟨nm, ins, r1, r2, r3⟩]⟩, ⟨s.1, 1, bcells s.2.1⟩]) (fun s => s.2.1.length ≤ size ∧ s.2.2.1.length ≤ s.2.2.2 ∧ goProg ins size s.2.2.2 s.2.1 s.2.2.1 = G) (fun s => s.2.2.2) (1, [], l0, l0.length) ⟨Nat.zero_le _, Nat.le_refl _, hg⟩ (Weaks.nilAs 6 1 (by decide) rfl (Weaks.sel (by repeat (first | exact trivial | refine ⟨.rfl, ?_⟩ | refine ⟨.any, ?_⟩)) rfl)) fun w hi K2 hC2 => ?_
    obtain ⟨v, acc, l, f⟩ := w
    obtain ⟨hi1, hi2, hst⟩ := hi
    dsimp only at hi1 hi2 hst hC2 ⊢
    have fin : ∀ (fr : Fr) (l2 : List Int) (h : List Blk), (acc, l2) = G → lk fr 6 = .psl 2 v 0 acc.length → h[2]? = some ⟨v, 1, bcells acc⟩ → outH h [0] 1 = [strB l2] → gcOk 1 h.length [0] = true → C fr h := fun fr l2 h hG h6 h2 h0 hk => by
      subst hG
      exact hC _ _ (Weaks.gc [0] 1 hk ⟨by rw [h6, out_bytesK rfl h2 (Nat.le_refl _)]; exact .rfl, trivial⟩ h0.symm)
    by_cases hl0 : l.length = 0
    · have hG : (acc, l) = G := by
        rw [← hst]
        cases f with
        | zero => rfl
        | succ f => unfold goProg; rw [if_pos hl0]
      repeat' (first
      | rw [cells_len]
      | exact True.intro
      | refine fun (K : KT) hK => ?_
      | intro hcd
      | (refine go1 ?_ ?_ <;> try clear hK K)
      | fail)
      all_goals first
        | (exfalso; omega)
        | exact fin _ l _ hG rfl rfl rfl rfl
    · obtain ⟨f, rfl⟩ : ∃ g, f = g + 1 := ⟨f - 1, by omega⟩
      unfold goProg at hst
      rw [if_neg hl0] at hst
      have hn := next_ok l ins.length (by omega)
      have hr := sval_range l ins.length (by omega)
      have hrl : (srest l ins.length).length + 1 ≤ l.length := by
        unfold srest; rw [if_neg (by omega), List.length_tail]; omega
      have hil : (sval l ins.length).toNat < ins.length := by omega
      have hget : ins.getD (sval l ins.length).toNat insZ = ins[(sval l ins.length).toNat] := by simp [hil]
      rw [hget] at hst
      have hmx := hmo _ (List.getElem_mem hil)
      have hop := hop _ (List.getElem_mem hil)
      have hm : (ins.map inC)[(sval l ins.length).toNat]? = some (inC ins[(sval l ins.length).toNat]) := by rw [List.getElem?_map, List.getElem?_eq_getElem hil]; rfl
      generalize ins[(sval l ins.length).toNat] = x at *
      obtain ⟨o1, o2, o3, ho⟩ := oprB_ok x hmx (srest l ins.length)
      generalize oprB x (srest l ins.length) = p at *
      obtain ⟨bs, l2⟩ := p
      obtain ⟨xo, xn, xm, xc⟩ := x
      dsimp only [inC] at hst o1 o2 o3 ho hop hmx hm
      generalize sval l ins.length = q at *
      generalize srest l ins.length = l1 at *
      repeat' (first
      | rw [cells_len]
      | rw [List.length_map]
      | (show WOpsT _ (⟨_, .idx _ _ _ _, none⟩ :: _) _ _ _ _; refine T.idxs rfl rfl rfl (by omega) hm ?_)
      | refine T.appBs (xs := [_]) (ys := bs) rfl rfl rfl rfl ⟨by decide, by omega⟩ ?_
      | refine T.appBs (ys := IntKind.wrap .u8 xo :: bs) rfl rfl (src_b rfl (by rw [List.length_cons]; omega)) rfl ⟨by decide, by rw [List.length_cons]; omega⟩ ?_
      | (show WOpsT _ (⟨_, .call _ _, none⟩ :: _) _ _ _ _; first | refine T.call1 0 e53 rfl rfl (hn) ?_ | refine T.call1 0 e183 rfl rfl (ho) ?_)
      | exact True.intro
      | refine fun (K : KT) hK => ?_
      | intro hcd
      | (refine go1 ?_ ?_ <;> try clear hK K)
      | fail)
      · rw [if_pos (by omega)] at hst
        exact fin _ l2 _ hst rfl rfl rfl rfl
      · rw [if_neg (by omega)] at hst
        refine hC2 _ _ (v + 1, acc ++ ([IntKind.wrap .u8 xo] ++ bs), l2, f) ⟨by simp only [List.length_append, List.length_cons, List.length_nil]; omega, by dsimp only; omega, hst⟩ (by dsimp only; omega) (Weaks.gc [0, 1, 2] 1 rfl ⟨.rfl, .rfl, .rfl, ?_, trivial⟩ ?_)
        · dsimp only; rw [List.length_append]; exact .rfl
        · show [_, _, _] = [_, _, outB _ _ _ ⟨v + 1, 1, bcells (acc ++ (IntKind.wrap .u8 xo :: bs))⟩]
          rw [outB_bytes]; rfl
  · skip
    repeat' (first
    | exact True.intro
    | refine fun (K : KT) hK => ?_
    | intro hcd
    | (refine go1 ?_ ?_ <;> try clear hK K)
    | fail)
    exact WS.gc [0] 1 rfl rfl .rfl
end Go.Proofs.YtpfagchhmfigfaaGreat.Calc

namespace Go.Proofs.YtpfagchhmfigfaaGreat.Calc
open Go Code
set_option linter.unusedSimpArgs false
set_option linter.unusedVariables false
set_option maxRecDepth 20000
set_option maxHeartbeats 8000000
attribute [local irreducible] WOpsT AW AK RK AKW UK UC
structure Dr where
  k : Int
  t : Int
  c : Int
  s : Int
  i : Int
  l : Int
  d : Int
  r : Int
  o : Int
  x : Int
abbrev dr10 (a : Dr) : List Int := [a.k, a.t, a.c, a.s, a.i, a.l, a.d, a.r, a.o, a.x]
abbrev drB (a : Dr) : Blk := ⟨1, 1, cells (dr10 a)⟩
structure Dr.Ok (a : Dr) (m : List Int) (nd : Nat) : Prop where
  k : 0 ≤ a.k ∧ a.k ≤ nd
  t : 0 ≤ a.t ∧ a.t < 4
  c : 0 ≤ a.c ∧ a.c ≤ 4
  s : 0 ≤ a.s ∧ a.s < 4
  i : 0 ≤ a.i ∧ a.i < 16
  l : 0 ≤ a.l ∧ a.l < 64
  d : 0 ≤ a.d ∧ a.d < 256
  r : 0 ≤ a.r ∧ a.r < 2
  o : 0 ≤ a.o ∧ a.o < 2
  x : 0 ≤ a.x ∧ a.x < 2
  len : m.length = 256 * nd
  nd : nd ≤ 255
  mem : Bytes m
theorem drvfit (a : Dr) (m : List Int) (nd : Nat) (H : a.Ok m nd) : FnE Tryz.prog 151 [dev (dr10 a) m] [] (.tup [.psl 0 1 0 10, .psl 1 1 0 m.length]) [drB a, memB m] := by
  obtain ⟨hk, ht, hc, hs, hi, hl, hd, hr, ho, hx, hm, hnd, hB⟩ := H
  refine N.fn Tryz.func151 k151 lb q151 fun Q hQ hQN => ?_
  rw [c151]
  have e0 : ((bcells m).length : Int) = 256 * nd := by rw [bcells_len, hm]; omega
  have e1 : IntKind.wrap .i64 ((256 * (nd : Int)).tdiv 256) = nd := by
    rw [Int.tdiv_eq_ediv_of_nonneg (by omega), show 256 * (nd : Int) / 256 = nd by omega]; exact wrap64 (by omega) (by omega)
  have e1' : IntKind.wrap .i64 (((m.length : Nat) : Int).tdiv 256) = nd := by rw [hm, show ((256 * nd : Nat) : Int) = 256 * (nd : Int) by omega]; exact e1
  have e2 : ((nd : Int) * 256).toNat = m.length := by omega
  have e3 : List.take m.length (bcells m) ++ List.drop (min (bcells m).length m.length) (List.replicate m.length [V.c (.int .u8 0)]) = bcells m := by
    rw [bcells_len, bcells_take, List.take_of_length_le (Nat.le_refl _), Nat.min_self]; simp
  repeat' (first
  | (show AK _ _ (.loop _) _ _ _ _; refine N.unroll 11 ?_)
  | rw [e0]
  | rw [e1]
  | rw [e1']
  | (show WOpsT _ (⟨_, .mksl _ _ _ _, none⟩ :: _) _ _ _ _; refine T.mksl rfl rfl ⟨by decide, by decide, by omega, by omega, by omega⟩ ?_)
  | rw [e2]
  | rw [e3]
  | (show WOpsT _ (⟨_, .call _ _, none⟩ :: _) _ _ _ _; first | refine T.call0 e77 rfl (low_in _ 8 8 rfl (by decide) (by omega)) ?_ | refine T.call0 e77 rfl (low_in _ 2 2 rfl (by decide) (by omega)) ?_ | refine T.call0 e77 rfl (low_in _ 3 3 rfl (by decide) (by omega)) ?_ | refine T.call0 e77 rfl (low_in _ 4 4 rfl (by decide) (by omega)) ?_ | refine T.call0 e77 rfl (low_in _ 6 6 rfl (by decide) (by omega)) ?_ | refine T.call0 e77 rfl (low_in _ 1 1 rfl (by decide) (by omega)) ?_)
  | exact True.intro
  | refine fun (K : KT) hK => ?_
  | intro hcd
  | (refine go1 ?_ ?_ <;> try clear hK K)
  | fail)
  exact WS.gc [1, 2] 1 rfl (by symm; refine outH2 ?_ ?_; (· rfl); (· exact outB_bytes)) .rfl
theorem drvnew (m : List Int) (nd : Nat) (hm : m.length = 256 * nd) (hnd : nd ≤ 255) : FnE Tryz.prog 119 [.sl 1 (bcells m)] [] (dev [0, 0, 0, 0, 0, 0, 0, 0, 0, 0] m) [] := by
  refine N.fn Tryz.func119 k119 lb q119 fun Q hQ hQN => ?_
  rw [c119]
  have e0 : ((bcells m).length : Int) = 256 * nd := by rw [bcells_len, hm]; omega
  have e1 : IntKind.wrap .i64 ((256 * (nd : Int)).tdiv 256) = nd := by
    rw [Int.tdiv_eq_ediv_of_nonneg (by omega), show 256 * (nd : Int) / 256 = nd by omega]; exact wrap64 (by omega) (by omega)
  have e2 : ((nd : Int) * 256).toNat = m.length := by omega
  have e3 : List.take m.length (bcells m) ++ List.drop (min (bcells m).length m.length) (List.replicate m.length [V.c (.int .u8 0)]) = bcells m := by
    rw [bcells_len, bcells_take, List.take_of_length_le (Nat.le_refl _), Nat.min_self]; simp
  repeat' (first
  | rw [e0]
  | rw [e1]
  | (show WOpsT _ (⟨_, .mksl _ _ _ _, none⟩ :: _) _ _ _ _; refine T.mksl rfl rfl ⟨by decide, by decide, by omega, by omega, by omega⟩ ?_)
  | rw [e2]
  | rw [e3]
  | exact True.intro
  | refine fun (K : KT) hK => ?_
  | intro hcd
  | (refine go1 ?_ ?_ <;> try clear hK K)
  | fail)
  exact WS.dev2 rfl rfl (Nat.le_refl _) rfl (Nat.le_refl _)
theorem and15' (n : Int) : bits .and .i64 n 15 = n % 16 := BA.low_eq n 4 (by decide)
theorem and3 (n : Int) : bits .and .i64 n 3 = n % 4 := BA.low_eq n 2 (by decide)
def Dr.begin (a : Dr) (k : Int) : Dr := if 0 < a.c ∨ k % 16 < 1 ∨ 4 < k % 16 ∨ (3 ≤ k % 16 ∧ a.k = 0) then a else { a with c := k % 16, s := k / 16 % 4, i := 0, l := 30, r := if k % 16 = 4 then 1 else 0 }
theorem drvbegin (a : Dr) (k : Int) : FnE Tryz.prog 205 [.psl 0 1 0 10, I k] [drB a] (.tup []) [drB (a.begin k)] := by
  refine N.fn Tryz.func205 k205 lb q205 fun Q hQ hQN => ?_
  rw [c205]
  have e1 : k / 2 ^ min (Int.toNat 4) IntKind.i64.bits = k / 16 := rfl
  repeat' (first
  | rw [and15']
  | rw [and3]
  | rw [e1]
  | exact True.intro
  | refine fun (K : KT) hK => ?_
  | intro hcd
  | (refine go1 ?_ ?_ <;> try clear hK K)
  | fail)
  all_goals (refine WS.gc [0] 1 rfl ?_ .rfl; unfold Dr.begin; (repeat' split) <;> first | (exfalso; omega) | rfl)
def Dr.place (a : Dr) : Int := (a.k - 1) * 256 + (a.t * 4 + a.s) * 16 + a.i
def Dr.change (a : Dr) (nd : Nat) (k : Int) : Dr := if a.c = 0 then (if 0 < k ∧ k ≤ nd then { a with k := k } else { a with k := 0 }) else a
end Go.Proofs.YtpfagchhmfigfaaGreat.Calc

namespace Go.Proofs.YtpfagchhmfigfaaGreat.Calc
open Go Code
set_option linter.unusedSimpArgs false
set_option linter.unusedVariables false
set_option maxRecDepth 20000
set_option maxHeartbeats 8000000
attribute [local irreducible] WOpsT AW AK RK AKW UK UC
def Dr.next (a : Dr) : Dr := if a.i + 1 = 16 then { a with r := if a.c = 4 then 0 else a.r, c := 0, i := 0, l := 0 } else { a with l := 20, i := a.i + 1 }
def Dr.done (a : Dr) (m : List Int) : Dr :=
  if a.c = 1 ∨ a.c = 2 then { a with t := max 0 (min (a.t + 3 - 2 * a.c) 3), c := 0 }
  else Dr.next { a with o := max a.o a.r, d := if a.c = 3 then m.getD a.place.toNat 0 else a.d, r := 1 }
def Dr.doneM (a : Dr) (m : List Int) : List Int := if a.c = 4 then m.set a.place.toNat a.d else m
end Go.Proofs.YtpfagchhmfigfaaGreat.Calc

namespace Go.Proofs.YtpfagchhmfigfaaGreat.Calc
open Go Code
set_option linter.unusedSimpArgs false
set_option linter.unusedVariables false
set_option maxRecDepth 20000
set_option maxHeartbeats 8000000
attribute [local irreducible] WOpsT AW AK RK AKW UK UC
def Dr.skip : Nat → Int → Dr → List Int → Dr × List Int
  | 0, _, a, m => (a, m)
  | f + 1, k, a, m => if k ≤ 0 ∨ a.c ≤ 0 then (a, m) else if 3 ≤ a.c ∧ a.k = 0 then ({ a with c := 0 }, m) else if k < a.l then ({ a with l := a.l - k }, m)
      else Dr.skip f (k - max 1 a.l) (Dr.done { a with l := 0 } m) (Dr.doneM { a with l := 0 } m)
theorem getD_set (m : List Int) (i j : Nat) (d : Int) : (m.set i d).getD j 0 = if i = j ∧ i < m.length then d else m.getD j 0 := by
  rw [List.getD_eq_getElem?_getD, List.getD_eq_getElem?_getD, List.getElem?_set]
  by_cases h : i = j
  · subst h
    by_cases h2 : i < m.length
    · rw [if_pos rfl, if_pos h2, if_pos ⟨rfl, h2⟩]; rfl
    · rw [if_pos rfl, if_neg h2, if_neg (fun h => h2 h.2), List.getElem?_eq_none (by omega)]
  · rw [if_neg h, if_neg (fun h' => h h'.1)]
theorem Bytes.set {m : List Int} (h : Bytes m) (i : Nat) (d : Int) (hd : 0 ≤ d ∧ d < 256) : Bytes (m.set i d) := by
  intro j
  rw [getD_set]
  split
  · exact hd
  · exact h j
end Go.Proofs.YtpfagchhmfigfaaGreat.Calc

namespace Go.Proofs.YtpfagchhmfigfaaGreat.Calc
open Go Code
set_option linter.unusedSimpArgs false
set_option linter.unusedVariables false
set_option maxRecDepth 20000
set_option maxHeartbeats 4000000
attribute [local irreducible] WOpsT AW AK RK AKW UK UC
def cpy (z b : List Int) (o : Nat) : List Int := (List.range z.length).map fun j => if o ≤ j ∧ j < o + b.length then b.getD (j - o) 0 else z.getD j 0
theorem cpy_len (z b : List Int) (o : Nat) : (cpy z b o).length = z.length := by simp [cpy]
theorem cpy_bytes {z b : List Int} (hz : Bytes z) (hb : Bytes b) (o : Nat) : Bytes (cpy z b o) := by
  intro i
  rw [List.getD_eq_getElem?_getD]
  unfold cpy
  rw [List.getElem?_map]
  by_cases hi : i < z.length
  · rw [List.getElem?_range hi]
    simp only [Option.map_some, Option.getD_some]
    split
    · exact hb _
    · exact hz _
  · rw [List.getElem?_eq_none (by simp; omega)]
    exact ⟨Int.le_refl 0, by show (0 : Int) < 256; decide⟩
theorem cpy_eq (z b : List Int) (o : Nat) (h : o + b.length ≤ z.length) : cpy z b o = z.take o ++ b ++ z.drop (o + b.length) := by
  apply List.ext_getElem?
  intro j
  unfold cpy
  rw [List.getElem?_map]
  have e1 : (z.take o).length = o := by rw [List.length_take]; omega
  by_cases hj : j < z.length
  · rw [List.getElem?_range hj]
    simp only [Option.map_some, List.getD_eq_getElem?_getD]
    by_cases h1 : j < o
    · rw [if_neg (by omega), List.append_assoc, List.getElem?_append_left (by omega), List.getElem?_take_of_lt h1, List.getElem?_eq_getElem hj]; rfl
    · by_cases h2 : j < o + b.length
      · rw [if_pos (by omega), List.append_assoc, List.getElem?_append_right (by omega), e1, List.getElem?_append_left (by omega), List.getElem?_eq_getElem (show j - o < b.length by omega)]; rfl
      · rw [if_neg (by omega), List.getElem?_append_right (by rw [List.length_append, e1]; omega), List.length_append, e1, List.getElem?_drop, show o + b.length + (j - (o + b.length)) = j by omega, List.getElem?_eq_getElem hj]; rfl
  · rw [List.getElem?_eq_none (by simp; omega), List.getElem?_eq_none (by simp [e1]; omega)]; rfl
theorem bcells_app (a b : List Int) : bcells a ++ bcells b = bcells (a ++ b) := by simp [bcells]
section
variable {P : Program} {rest : List AOper} {tr : Tr} {fr : Fr} {h : List Blk} {K : KT} {d : Option Nat}
theorem T.copyB {t s : AO} {b ver off len : Nat} {zs ys : List Int} (ht : t.ev (lk fr) = .psl b ver off len) (hb : h[b]? = some ⟨ver, 1, bcells zs⟩) (hs : rowsOf (fun b => h[b]?) (s.ev (lk fr)) = some (1, bcells ys)) (hl : ys.length ≤ len ∧ off + len ≤ zs.length)
    (hK : WOpsT P rest (tr ++ [(b :: vlook (s.ev (lk fr)), [b])]) (put fr d (I ys.length)) (h.set b ⟨ver, 1, bcells (cpy zs ys off)⟩) K) : WOpsT P (⟨d, .copy 1 t s, none⟩ :: rest) tr fr h K :=
  T.copy ht hb hs ⟨rfl, rfl⟩ (by
    have e1 : min (bcells ys).length len = ys.length := by rw [bcells_len]; omega
    have e2 : (bcells zs).take off ++ (bcells ys).take len ++ (bcells zs).drop (off + ys.length) = bcells (cpy zs ys off) := by
      rw [cpy_eq zs ys off (by omega), bcells_take, bcells_take, bcells_drop, List.take_of_length_le hl.1, bcells_app, bcells_app]
    dsimp only
    rw [e1, e2]; exact hK)
end
theorem rows_b {bl : Nat → Option Blk} {b ver len : Nat} {ys : List Int} (hb : bl b = some ⟨ver, 1, bcells ys⟩) (hl : ys.length ≤ len) : rowsOf bl (.psl b ver 0 len) = some (1, bcells ys) := by
  unfold rowsOf
  simp only [hb]
  rw [if_pos trivial, List.drop_zero, List.take_of_length_le (by rw [bcells_len]; exact hl)]
theorem WS.bytes {h : List Blk} {b v len : Nat} {m : List Int} (hb : h[b]? = some ⟨v, 1, bcells m⟩) (hl : m.length ≤ len) : WeakS 0 (.psl b v 0 len) h (.sl 1 (bcells m)) [] :=
  WS.gc [] 1 rfl rfl (by rw [out_bytesK rfl hb hl]; exact .rfl)
theorem zerosB (n : Nat) : List.replicate n [V.c (.int .u8 0)] = bcells (List.replicate n 0) := by simp [bcells]
theorem Bytes.zeros (n : Nat) : Bytes (List.replicate n 0) := by
  intro i
  rw [List.getD_eq_getElem?_getD, List.getElem?_replicate]
  split <;> exact ⟨Int.le_refl 0, by show (0 : Int) < 256; decide⟩
theorem bsetv (m : List Int) (k : Nat) (x v : Int) : (bcells m).set k (spl [V.c (.int .u8 x)] 0 [V.c (.int .u8 v)]) = bcells (m.set k v) := by rw [← bcells_set]; rfl
theorem browv (m : List Int) (k : Nat) (hk : k < m.length) : (bcells m)[k]? = some [.c (.int .u8 m[k])] := by
  rw [bcells_get, List.getElem?_eq_getElem hk]; rfl
def ansL : List Int := [namV ⟨#[112, 104, 112]⟩, namV ⟨#[112, 104, 97]⟩, opV ⟨#[105, 110, 99]⟩ 2, 9, opV ⟨#[108, 100, 97]⟩ 4, 3, 224, opV ⟨#[108, 100, 97]⟩ 4, 16, 224, namV ⟨#[112, 108, 97]⟩, namV ⟨#[112, 108, 112]⟩, namV ⟨#[114, 116, 105]⟩]
theorem ansL_bytes : Bytes ansL := by
  have h := namV_range
  have k := opV_range
  unfold ansL
  refine .cons (.cons (.cons (.cons (.cons (.cons (.cons (.cons (.cons (.cons (.cons (.cons (.cons .nil ?_) ?_) ?_) ?_) ?_) ?_) ?_) ?_) ?_) ?_) ?_) ?_) ?_ <;> first | exact h _ | exact k _ _ | decide
def romOf (b : List Int) : List Int := (((((((((cpy (((cpy (List.replicate 256 0) b 0).set b.length (namV ⟨#[106, 109, 112]⟩)).set (b.length + 1) 0 |>.set (b.length + 2) 255) ansL 180).set 250 180).set 251 255).set 254 180).set 255 255).set 252 0).set 253 255)))
theorem romOf_len (b : List Int) : (romOf b).length = 256 := by unfold romOf; simp only [List.length_set, cpy_len, List.length_replicate]
theorem romOf_bytes (b : List Int) (hb : Bytes b) : Bytes (romOf b) := by
  unfold romOf
  refine Bytes.set (Bytes.set (Bytes.set (Bytes.set (Bytes.set (Bytes.set (cpy_bytes (Bytes.set (Bytes.set (Bytes.set (cpy_bytes (Bytes.zeros _) hb _) _ _ (namV_range _)) _ _ (by decide)) _ _ (by decide)) ansL_bytes _) _ _ (by decide)) _ _ (by decide)) _ _ (by decide)) _ _ (by decide)) _ _ (by decide)) _ _ (by decide)
theorem rom_ex (l : List Int) : ∃ m : List Int, m.length = 256 ∧ Bytes m ∧ FnE Tryz.prog 55 [.sl 1 (cells l)] [] (.sl 1 (bcells m)) [] := by
  obtain ⟨⟨bs, l2⟩, h1, h2, h3, hp⟩ := program_ex l 160 (by decide)
  dsimp only at h1 h2 h3 hp
  have n3 := next_ok l2 3 (by decide)
  have e3 : ∀ k : Nat, ((k : Int) + 1).toNat = k + 1 := fun k => by omega
  have e4 : ∀ k : Nat, ((k : Int) + 2).toNat = k + 2 := fun k => by omega
  have e5 : ((250 : Int) + 1).toNat = 251 := rfl
  have e6 : ((254 : Int) + 1).toNat = 255 := rfl
  have o1 := named_m ⟨#[112, 104, 112]⟩
  have o2 := named_m ⟨#[112, 104, 97]⟩
  have o3 := op_ok ⟨#[105, 110, 99]⟩ 2
  have o4 := op_ok ⟨#[108, 100, 97]⟩ 4
  have o5 := named_m ⟨#[112, 108, 97]⟩
  have o6 := named_m ⟨#[112, 108, 112]⟩
  have o7 := named_m ⟨#[114, 116, 105]⟩
  have o8 := named_m ⟨#[106, 109, 112]⟩
  have o9 := named_m ⟨#[99, 108, 105]⟩
  have hzl : (List.replicate 256 (0 : Int)).length = 256 := List.length_replicate
  by_cases hc : 0 < sval l2 3
  · refine ⟨romOf (namV ⟨#[99, 108, 105]⟩ :: bs), romOf_len _, romOf_bytes _ (h2.cons (namV_range _)), ?_⟩
    unfold romOf
    rw [List.length_cons]
    obtain ⟨c, hc9⟩ : ∃ c, namV ⟨#[99, 108, 105]⟩ = c := ⟨_, rfl⟩
    obtain ⟨q, hq⟩ : ∃ q, c :: bs = q := ⟨_, rfl⟩
    have hql : q.length = bs.length + 1 := by rw [← hq]; rfl
    rw [hc9] at o9 ⊢
    rw [hq, ← hql]
    refine N.fn Tryz.func55 k55 lb q55 fun Q hQ hQN => ?_
    rw [c55]
    repeat' (first
    | rw [zerosB]
    | refine T.appBs (xs := [c]) (ys := bs) rfl rfl rfl rfl ⟨by decide, by omega⟩ ?_
    | refine T.copyB (ys := q) rfl rfl (by rw [← hq]; exact rows_b rfl (by rw [List.length_cons]; omega)) ⟨by omega, by rw [hzl]; decide⟩ ?_
    | rw [e3]
    | rw [e4]
    | rw [Int.toNat_natCast]
    | (show WOpsT _ (⟨_, .st _ _ _, none⟩ :: _) _ _ _ _; refine T.st rfl rfl rfl ⟨rfl, rfl⟩ (browv _ _ (by simp only [List.length_set, cpy_len, List.length_replicate]; omega)) lb ?_)
    | rw [bsetv]
    | (show AK _ _ (.loop _) _ _ _ _; refine N.unroll 3 ?_)
    | rw [e5]
    | rw [e6]
    | refine T.copyB (ys := ansL) rfl rfl (rows_b rfl lb) ⟨lb, by simp only [List.length_set, cpy_len, List.length_replicate]; decide⟩ ?_
    | (show WOpsT _ (⟨_, .call _ _, none⟩ :: _) _ _ _ _; first | refine T.cP [0] e105 (hp) ?_ | refine T.call1 0 e53 rfl rfl (n3) ?_ | refine T.call0 e106 rfl (o1) ?_ | refine T.call0 e106 rfl (o2) ?_ | refine T.call0 e107 rfl (o3) ?_ | refine T.call0 e107 rfl (o4) ?_ | refine T.call0 e106 rfl (o5) ?_ | refine T.call0 e106 rfl (o6) ?_ | refine T.call0 e106 rfl (o7) ?_ | refine T.call0 e106 rfl (o8) ?_ | refine T.call0 e106 rfl (o9) ?_)
    | exact True.intro
    | refine fun (K : KT) hK => ?_
    | intro hcd
    | (refine go1 ?_ ?_ <;> try clear hK K)
    | fail)
    exact WS.bytes rfl (by simp only [List.length_set, cpy_len, List.length_replicate]; exact Nat.le_refl _)
  · refine ⟨romOf bs, romOf_len _, romOf_bytes _ h2, ?_⟩
    unfold romOf
    refine N.fn Tryz.func55 k55 lb q55 fun Q hQ hQN => ?_
    rw [c55]
    repeat' (first
    | rw [zerosB]
    | refine T.copyB (ys := bs) rfl rfl rfl ⟨by omega, by rw [hzl]; decide⟩ ?_
    | rw [e3]
    | rw [e4]
    | rw [Int.toNat_natCast]
    | (show WOpsT _ (⟨_, .st _ _ _, none⟩ :: _) _ _ _ _; refine T.st rfl rfl rfl ⟨rfl, rfl⟩ (browv _ _ (by simp only [List.length_set, cpy_len, List.length_replicate]; omega)) lb ?_)
    | rw [bsetv]
    | (show AK _ _ (.loop _) _ _ _ _; refine N.unroll 3 ?_)
    | rw [e5]
    | rw [e6]
    | refine T.copyB (ys := ansL) rfl rfl (rows_b rfl lb) ⟨lb, by simp only [List.length_set, cpy_len, List.length_replicate]; decide⟩ ?_
    | (show WOpsT _ (⟨_, .call _ _, none⟩ :: _) _ _ _ _; first | refine T.cP [0] e105 (hp) ?_ | refine T.call1 0 e53 rfl rfl (n3) ?_ | refine T.call0 e106 rfl (o1) ?_ | refine T.call0 e106 rfl (o2) ?_ | refine T.call0 e107 rfl (o3) ?_ | refine T.call0 e107 rfl (o4) ?_ | refine T.call0 e106 rfl (o5) ?_ | refine T.call0 e106 rfl (o6) ?_ | refine T.call0 e106 rfl (o7) ?_ | refine T.call0 e106 rfl (o8) ?_ | refine T.call0 e106 rfl (o9) ?_)
    | exact True.intro
    | refine fun (K : KT) hK => ?_
    | intro hcd
    | (refine go1 ?_ ?_ <;> try clear hK K)
    | fail)
    exact WS.bytes rfl (by simp only [List.length_set, cpy_len, List.length_replicate]; exact Nat.le_refl _)
end Go.Proofs.YtpfagchhmfigfaaGreat.Calc

namespace Go.Proofs.YtpfagchhmfigfaaGreat.Calc
open Go
set_option linter.unusedVariables false
set_option linter.unusedSimpArgs false
structure Chp where
  name : ByteArray
  kind : Int
  base : Int
  size : Int
  data : List Int
structure Wir where
  src : ByteArray
  dst : ByteArray
structure Brd where
  name : ByteArray
  cpu : Cpu
  chips : List Chp
  wires : List Wir
def chV (c : Chp) : List V := [.c (.string c.name), I c.kind, I c.base, I c.size, .sl 1 (bcells c.data)]
def wiV (w : Wir) : List V := [.c (.string w.src), .c (.string w.dst)]
def boV (b : Brd) : List V := .c (.string b.name) :: cpC b.cpu ++ [.sl 5 (b.chips.map chV), .sl 2 (b.wires.map wiV)]
def daV (l : List Int) : V := match l with
  | [] => .c (.slice none 0 0)
  | a :: l => .sl 1 (bcells (a :: l))
def chQ (c : Chp) : List V := [.c (.string c.name), I c.kind, I c.base, I c.size, daV c.data]
instance : Flat chV := ⟨fun a x hx => by simp [chV] at hx; rcases hx with rfl | rfl | rfl | rfl | rfl <;> first | exact .inl ⟨_, rfl⟩ | exact .inr ⟨_, _, rfl⟩⟩
instance : Flat wiV := ⟨fun a x hx => by simp [wiV] at hx; rcases hx with rfl | rfl <;> exact .inl ⟨_, rfl⟩⟩
instance : Flat chQ := ⟨fun a x hx => by
  obtain ⟨n, k, b, s, d⟩ := a
  cases d with
  | nil => simp [chQ, daV] at hx; rcases hx with rfl | rfl | rfl | rfl | rfl <;> exact .inl ⟨_, rfl⟩
  | cons v d => simp [chQ, daV] at hx; rcases hx with rfl | rfl | rfl | rfl | rfl <;> first | exact .inl ⟨_, rfl⟩ | exact .inr ⟨_, _, rfl⟩⟩
theorem sub_daV (l : List Int) : Sub (daV l) (.sl 1 (bcells l)) := by cases l <;> first | exact .nil | exact .rfl
def sIrq : ByteArray := ⟨#[46, 105, 114, 113]⟩
def sCpuIrq : ByteArray := ⟨#[99, 112, 117, 46, 105, 114, 113]⟩
def sChip : ByteArray := ⟨#[99, 104, 105, 112, 45]⟩
def kdN (m : Nat) : Nat := [3, 5, 4, 6, 7, 8, 2, 3].getD m 0
def szN (k : Nat) : Nat := [0, 0, 9, 4, 2, 3, 32, 8, 4].getD k 0
def chipN (i : Nat) : ByteArray := sChip ++ Utf8.encode (97 + (i : Int))
def drvD (i n k : Nat) : List Int := (List.range n).map fun j => if j < k then IntKind.wrap .u8 ((j : Int) * 7 + i) else 0
def datB (k i : Nat) (l : List Int) : List Int × List Int :=
  if k = 8 then (drvD i (256 * (1 + (sval l 2).toNat)) (256 * (1 + (sval l 2).toNat)), srest l 2)
  else if k = 2 then (bytesOf [sval l 256, sval (srest l 256) 256] (8 + 8 * (sval (srest (srest l 256) 256) 3).toNat), srest (srest (srest l 256) 256) 3)
  else ([], l)
def wirB (k : Nat) (n : ByteArray) (l : List Int) : List Wir × List Int :=
  if k = 3 ∨ k = 5 ∨ k = 8 then (if 0 < sval l 3 then [⟨n ++ sIrq, sCpuIrq⟩] else [], srest l 3) else ([], l)
def mkChp (k i : Nat) (a : Int) (d : List Int) : Chp := ⟨chipN i, k, a, szN k, d⟩
def stepBd (k i : Nat) (a : Int) (l : List Int) : Chp × List Wir × List Int :=
  (mkChp k i a (datB k i l).1, wirB k (chipN i) (datB k i l).2)
def goBd : Nat → Nat → Int → List Chp → List Wir → List Int → List Chp × List Wir × List Int
  | 0, _, _, cs, ws, l => (cs, ws, l)
  | n + 1, i, a, cs, ws, l =>
    goBd n (i + 1) (a + ((szN (kdN (sval l 8).toNat) : Int) + 15) / 16 * 16) (cs ++ [(stepBd (kdN (sval l 8).toNat) i a (srest l 8)).1]) (ws ++ (stepBd (kdN (sval l 8).toNat) i a (srest l 8)).2.1) (stepBd (kdN (sval l 8).toNat) i a (srest l 8)).2.2
def ramC : Chp := ⟨⟨#[114, 97, 109]⟩, 0, 0, 768, []⟩
noncomputable def romD (l : List Int) : List Int := (rom_ex l).choose
noncomputable def romC (l : List Int) : Chp := ⟨⟨#[114, 111, 109]⟩, 1, 65280, 256, romD l⟩
def bdOf (l : List Int) : List Chp × List Wir × List Int := goBd (sval l 5).toNat 0 57344 [ramC] [] (srest l 5)
noncomputable def mkBrd (l : List Int) : Brd := ⟨⟨#[98, 111, 97, 114, 100]⟩, stdM, (bdOf l).1 ++ [romC (bdOf l).2.2], (bdOf l).2.1⟩
theorem romD_ok (l : List Int) : (romD l).length = 256 ∧ Bytes (romD l) ∧ FnE Tryz.prog 55 [.sl 1 (cells l)] [] (.sl 1 (bcells (romD l))) [] := (rom_ex l).choose_spec
theorem drvD_len (i n k : Nat) : (drvD i n k).length = n := by simp [drvD]
theorem drvD_zero (i n : Nat) : drvD i n 0 = List.replicate n 0 := by
  apply List.ext_getElem?
  intro j
  simp only [drvD, List.getElem?_map, List.getElem?_replicate, Nat.not_lt_zero, if_false]
  by_cases hj : j < n
  · rw [if_pos hj, List.getElem?_range hj]; rfl
  · rw [if_neg hj, List.getElem?_eq_none (by simp; omega)]; rfl
theorem drvD_set (i n k : Nat) (hk : k < n) : (drvD i n k).set k (IntKind.wrap .u8 ((k : Int) * 7 + i)) = drvD i n (k + 1) := by
  apply List.ext_getElem?
  intro j
  simp only [drvD]
  by_cases hij : k = j
  · subst hij
    rw [List.getElem?_set_self (by simpa using hk), List.getElem?_map, List.getElem?_range hk]
    simp
  · rw [List.getElem?_set_ne hij, List.getElem?_map, List.getElem?_map]
    by_cases hj : j < n
    · rw [List.getElem?_range hj]
      simp only [Option.map_some]
      by_cases h2 : j < k
      · rw [if_pos h2, if_pos (by omega)]
      · rw [if_neg h2, if_neg (by omega)]
    · rw [List.getElem?_eq_none (by simp; omega)]; rfl
theorem drvD_bytes (i n k : Nat) : Bytes (drvD i n k) := by
  intro j
  simp only [drvD, List.getD_eq_getElem?_getD, List.getElem?_map]
  by_cases hi : j < n
  · rw [List.getElem?_range hi]
    simp only [Option.map_some, Option.getD_some]
    split
    · exact wrapB _
    · exact ⟨Int.le_refl 0, by decide⟩
  · rw [List.getElem?_eq_none (by simp; omega)]
    exact ⟨Int.le_refl 0, by show (0 : Int) < 256; decide⟩
theorem kdN_r (m : Nat) (h : m < 8) : 2 ≤ kdN m ∧ kdN m ≤ 8 := by
  match m with
  | 0 => decide
  | 1 => decide
  | 2 => decide
  | 3 => decide
  | 4 => decide
  | 5 => decide
  | 6 => decide
  | 7 => decide
theorem szN_r (k : Nat) : szN k ≤ 32 := by
  match k with
  | 0 => decide
  | 1 => decide
  | 2 => decide
  | 3 => decide
  | 4 => decide
  | 5 => decide
  | 6 => decide
  | 7 => decide
  | 8 => decide
  | k + 9 => exact Nat.zero_le _
theorem kd_rows (m : Nat) (h : m < 8) : ([[I 3], [I 5], [I 4], [I 6], [I 7], [I 8], [I 2], [I 3]] : List (List V))[m]? = some [I (kdN m : Nat)] := by
  match m with
  | 0 => rfl
  | 1 => rfl
  | 2 => rfl
  | 3 => rfl
  | 4 => rfl
  | 5 => rfl
  | 6 => rfl
  | 7 => rfl
theorem sz_rows (k : Nat) (h : k < 9) : ([[I 0], [I 0], [I 9], [I 4], [I 2], [I 3], [I 32], [I 8], [I 4]] : List (List V))[k]? = some [I (szN k : Nat)] := by
  match k with
  | 0 => rfl
  | 1 => rfl
  | 2 => rfl
  | 3 => rfl
  | 4 => rfl
  | 5 => rfl
  | 6 => rfl
  | 7 => rfl
  | 8 => rfl
theorem wrapi32 (n : Int) (h : 0 ≤ n ∧ n < 1000) : IntKind.wrap .i32 n = n := by
  simp [IntKind.wrap, IntKind.signed, IntKind.bits]; omega
theorem encSize : ∀ v : Nat, v < 26 → (Utf8.encode (97 + (v : Int))).size = 1 := by decide +kernel
theorem chipN_size (i : Nat) (h : i < 26) : (chipN i).size = 6 := by
  unfold chipN
  rw [ByteArray.size_append, encSize i h]; rfl
theorem catV (a b : ByteArray) (ha : a.size ≤ 1000 ∧ b.size ≤ 1000) : binV .add (.string a) (.string b) = some (.string (a ++ b)) := by
  simp only [binV]
  rw [if_pos (by omega)]
end Go.Proofs.YtpfagchhmfigfaaGreat.Calc

