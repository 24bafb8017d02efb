/- Several texts in one (FnProgB, FnDrive, FnDriveB, FnDriveD, FnRom, PureBoard, FnMem, FnTimer, FnSerial, FnVideo, FnVideoB, PureSound, FnSound, FnSoundB, FnDriveC, FnDevs, FnChipOps, FnChipEx, PureSkip, FnMakeB), for the proof of LawBoardRanges. No condition beyond those in each lemma. -/
import Derived.Test.YtolmklnijjfppaaPLawBoardRangesG
import Derived.Test.YtolmklnijjfppaaPLawBoardRangesE
import Derived.Test.YtolmklnijjfppaaPLawBoardRangesD
import Derived.RowKit
import Derived.Test.YtolmklnijjfppaaPLawBoardRangesF
namespace Go.Proofs.Ytolmklnijjfppaa.Calc
open Go Code
set_option linter.unusedSimpArgs false
set_option linter.unusedVariables false
set_option maxRecDepth 20000
set_option maxHeartbeats 4000000
attribute [local irreducible] WOpsT AW AK RK AKW UK UC
section
variable {P : Program} {rest : List AOper} {tr : Tr} {fr : Fr} {h : List Blk} {K : KT} {d : Option Nat}
theorem T.appBs {bytes : Nat} {s x : AO} {b ver len : Nat} {xs ys : List Int} (hs : s.ev (lk fr) = .psl b ver 0 len) (hb : h[b]? = some ⟨ver, 1, bcells xs⟩) (hx : srcOf (fun b => h[b]?) 1 (x.ev (lk fr)) = some (1, bcells ys)) (hl : len = xs.length)
    (hn : 0 < bytes ∧ bytes * (len + ys.length + (len + ys.length) / 4 + 1024) ≤ 2 ^ 48)
    (hK : WOpsT P rest (tr ++ [(b :: vlook (x.ev (lk fr)), [b])]) (put fr d (.psl b (ver + 1) 0 (len + ys.length))) (h.set b ⟨ver + 1, 1, bcells (xs ++ ys)⟩) K) : WOpsT P (⟨d, .app 1 bytes s x, none⟩ :: rest) tr fr h K :=
  T.app hs hb hx ⟨by decide, hn.1⟩ ⟨rfl, rfl, by simp [bcells_len, hl], by rw [bcells_len]; exact hn.2⟩ (by
    have e : (bcells xs).drop 0 ++ bcells ys = bcells (xs ++ ys) := by simp [bcells]
    dsimp only
    rw [e, bcells_len]; exact hK)
theorem src_b {bl : Nat → Option Blk} {b ver len : Nat} {ys : List Int} (hb : bl b = some ⟨ver, 1, bcells ys⟩) (hl : ys.length ≤ len) : srcOf bl 1 (.psl b ver 0 len) = some (1, bcells ys) := by
  unfold srcOf rowsOf
  simp only [hb]
  rw [if_pos trivial, List.drop_zero, List.take_of_length_le (by rw [bcells_len]; exact hl)]
end
noncomputable def oprB (x : Ins) (l : List Int) : List Int × List Int := if h : 0 ≤ x.mode ∧ x.mode < 9 then (operand_ex x h l).choose else ([], l)
theorem oprB_ok (x : Ins) (h : 0 ≤ x.mode ∧ x.mode < 9) (l : List Int) : (oprB x l).1.length ≤ 2 ∧ Bytes (oprB x l).1 ∧ (oprB x l).2.length ≤ l.length ∧ FnE Try.prog 144 [.ptr 0 1 0 0, .agg (inC x)] [strB l] (.sl 1 (bcells (oprB x l).1)) [strB (oprB x l).2] := by
  unfold oprB; rw [dif_pos h]; exact (operand_ex x h l).choose_spec
noncomputable def goProg (ins : List Ins) (size : Nat) : Nat → List Int → List Int → List Int × List Int
  | 0, acc, l => (acc, l)
  | f + 1, acc, l => if l.length = 0 then (acc, l) else
      if acc.length + (1 + (oprB (ins.getD (sval l ins.length).toNat insZ) (srest l ins.length)).1.length) > size then (acc, (oprB (ins.getD (sval l ins.length).toNat insZ) (srest l ins.length)).2)
      else goProg ins size f (acc ++ ([IntKind.wrap .u8 (ins.getD (sval l ins.length).toNat insZ).op] ++ (oprB (ins.getD (sval l ins.length).toNat insZ) (srest l ins.length)).1)) (oprB (ins.getD (sval l ins.length).toNat insZ) (srest l ins.length)).2
theorem goProg_spec (ins : List Ins) (size : Nat) (hm : ∀ x ∈ ins, 0 ≤ x.mode ∧ x.mode < 9) (h0 : 0 < ins.length) : ∀ (f : Nat) (acc l : List Int), acc.length ≤ size → Bytes acc → (goProg ins size f acc l).1.length ≤ size ∧ Bytes (goProg ins size f acc l).1 ∧ (goProg ins size f acc l).2.length ≤ l.length := by
  intro f
  induction f with
  | zero => intro acc l h1 h2; exact ⟨h1, h2, Nat.le_refl _⟩
  | succ f ih =>
    intro acc l h1 h2
    have hr := sval_range l ins.length (by omega)
    have hx : 0 ≤ (ins.getD (sval l ins.length).toNat insZ).mode ∧ (ins.getD (sval l ins.length).toNat insZ).mode < 9 := by
      have : (sval l ins.length).toNat < ins.length := by omega
      rw [show ins.getD (sval l ins.length).toNat insZ = ins[(sval l ins.length).toNat] by simp [this]]
      exact hm _ (List.getElem_mem this)
    obtain ⟨g1, g2, g3, _⟩ := oprB_ok _ hx (srest l ins.length)
    have g4 := srest_le l ins.length
    unfold goProg
    split
    · exact ⟨h1, h2, Nat.le_refl _⟩
    · split
      · exact ⟨h1, h2, by dsimp only; omega⟩
      · obtain ⟨i1, i2, i3⟩ := ih (acc ++ ([IntKind.wrap .u8 (ins.getD (sval l ins.length).toNat insZ).op] ++ (oprB (ins.getD (sval l ins.length).toNat insZ) (srest l ins.length)).1)) (oprB (ins.getD (sval l ins.length).toNat insZ) (srest l ins.length)).2 (by simp only [List.length_append, List.length_cons, List.length_nil]; omega) (h2.append ((Bytes.nil.cons (wrapB _)).append g2))
        exact ⟨i1, i2, by omega⟩
theorem program_ex (l0 : List Int) (size : Nat) (hs : size ≤ 1000) : ∃ p : List Int × List Int, p.1.length ≤ size ∧ Bytes p.1 ∧ p.2.length ≤ l0.length ∧ FnE Try.prog 84 [.ptr 0 1 0 0, I size] [strB l0] (.sl 1 (bcells p.1)) [strB p.2] := by
  have hcpu := stdCpu_ok
  obtain ⟨hl, hop, hmo⟩ := stdM_ops
  have hsp := goProg_spec stdM.ins size hmo (by omega) l0.length [] l0 (Nat.zero_le _) Bytes.nil
  refine ⟨goProg stdM.ins size l0.length [] l0, hsp.1, hsp.2.1, hsp.2.2, ?_⟩
  generalize hg : goProg stdM.ins size l0.length [] l0 = G at *
  generalize stdM = c at *
  obtain ⟨nm, ins, r1, r2, r3⟩ := c
  dsimp only at hl hop hmo hg
  have h0 : 0 < ins.length := by omega
  have hl92 : (ins.length : Int) = 92 := by omega
  refine N.fn Try.func84 k84 lb q84 fun Q hQ hQN => ?_
  rw [c84]
  repeat' (first
  | rw [cp_t5]
  | rw [cp_z]
  | refine T.call0 e46 rfl (hcpu) ?_
  | exact True.intro
  | refine fun (K : KT) hK => ?_
  | intro hcd
  | (refine goB ?_ ?_ <;> try clear hK K)
  | fail)
  refine N.blockC [(6, .sl 1 (bcells G.1))] [strB G.2] rfl (fun C hC => ?_) ?_
  · refine N.loop (σ := Nat × List Int × List Int × Nat) (fun s => [(0, .ptr 0 1 0 0), (1, I size), (5, .ptr 1 1 0 0), (6, .psl 2 s.1 0 s.2.1.length)]) (fun s => [strB s.2.2.1, ⟨1, 5, [cpC ⟨nm, ins, r1, r2, r3⟩]⟩, ⟨s.1, 1, bcells s.2.1⟩]) (fun s => s.2.1.length ≤ size ∧ s.2.2.1.length ≤ s.2.2.2 ∧ goProg ins size s.2.2.2 s.2.1 s.2.2.1 = G) (fun s => s.2.2.2) (1, [], l0, l0.length) ⟨Nat.zero_le _, Nat.le_refl _, hg⟩ (Weaks.nilAs 6 1 (by decide) rfl (Weaks.sel (by repeat (first | exact trivial | refine ⟨.rfl, ?_⟩ | refine ⟨.any, ?_⟩)) rfl)) fun w hi K2 hC2 => ?_
    obtain ⟨v, acc, l, f⟩ := w
    obtain ⟨hi1, hi2, hst⟩ := hi
    dsimp only at hi1 hi2 hst hC2 ⊢
    have fin : ∀ (fr : Fr) (l2 : List Int) (h : List Blk), (acc, l2) = G → lk fr 6 = .psl 2 v 0 acc.length → h[2]? = some ⟨v, 1, bcells acc⟩ → outH h [0] 1 = [strB l2] → gcOk 1 h.length [0] = true → C fr h := fun fr l2 h hG h6 h2 h0 hk => by
      subst hG
      exact hC _ _ (Weaks.gc [0] 1 hk ⟨by rw [h6, out_bytesK rfl h2 (Nat.le_refl _)]; exact .rfl, trivial⟩ h0.symm)
    by_cases hl0 : l.length = 0
    · have hG : (acc, l) = G := by
        rw [← hst]
        cases f with
        | zero => rfl
        | succ f => unfold goProg; rw [if_pos hl0]
      repeat' (first
      | rw [cells_len]
      | exact True.intro
      | refine fun (K : KT) hK => ?_
      | intro hcd
      | (refine go1 ?_ ?_ <;> try clear hK K)
      | fail)
      all_goals first
        | (exfalso; omega)
        | exact fin _ l _ hG rfl rfl rfl rfl
    · obtain ⟨f, rfl⟩ : ∃ g, f = g + 1 := ⟨f - 1, by omega⟩
      unfold goProg at hst
      rw [if_neg hl0] at hst
      have hn := next_ok l ins.length (by omega)
      have hr := sval_range l ins.length (by omega)
      have hrl : (srest l ins.length).length + 1 ≤ l.length := by
        unfold srest; rw [if_neg (by omega), List.length_tail]; omega
      have hil : (sval l ins.length).toNat < ins.length := by omega
      have hget : ins.getD (sval l ins.length).toNat insZ = ins[(sval l ins.length).toNat] := by simp [hil]
      rw [hget] at hst
      have hmx := hmo _ (List.getElem_mem hil)
      have hop := hop _ (List.getElem_mem hil)
      have hm : (ins.map inC)[(sval l ins.length).toNat]? = some (inC ins[(sval l ins.length).toNat]) := by rw [List.getElem?_map, List.getElem?_eq_getElem hil]; rfl
      generalize ins[(sval l ins.length).toNat] = x at *
      obtain ⟨o1, o2, o3, ho⟩ := oprB_ok x hmx (srest l ins.length)
      generalize oprB x (srest l ins.length) = p at *
      obtain ⟨bs, l2⟩ := p
      obtain ⟨xo, xn, xm, xc⟩ := x
      dsimp only [inC] at hst o1 o2 o3 ho hop hmx hm
      generalize sval l ins.length = q at *
      generalize srest l ins.length = l1 at *
      repeat' (first
      | rw [cells_len]
      | rw [List.length_map]
      | (show WOpsT _ (⟨_, .idx _ _ _ _, none⟩ :: _) _ _ _ _; refine T.idxs rfl rfl rfl (by omega) hm ?_)
      | refine T.appBs (xs := [_]) (ys := bs) rfl rfl rfl rfl ⟨by decide, by omega⟩ ?_
      | refine T.appBs (ys := IntKind.wrap .u8 xo :: bs) rfl rfl (src_b rfl (by rw [List.length_cons]; omega)) rfl ⟨by decide, by rw [List.length_cons]; omega⟩ ?_
      | (show WOpsT _ (⟨_, .call _ _, none⟩ :: _) _ _ _ _; first | refine T.call1 0 e37 rfl rfl (hn) ?_ | refine T.call1 0 e144 rfl rfl (ho) ?_)
      | exact True.intro
      | refine fun (K : KT) hK => ?_
      | intro hcd
      | (refine go1 ?_ ?_ <;> try clear hK K)
      | fail)
      · rw [if_pos (by omega)] at hst
        exact fin _ l2 _ hst rfl rfl rfl rfl
      · rw [if_neg (by omega)] at hst
        refine hC2 _ _ (v + 1, acc ++ ([IntKind.wrap .u8 xo] ++ bs), l2, f) ⟨by simp only [List.length_append, List.length_cons, List.length_nil]; omega, by dsimp only; omega, hst⟩ (by dsimp only; omega) (Weaks.gc [0, 1, 2] 1 rfl ⟨.rfl, .rfl, .rfl, ?_, trivial⟩ ?_)
        · dsimp only; rw [List.length_append]; exact .rfl
        · show [_, _, _] = [_, _, outB _ _ _ ⟨v + 1, 1, bcells (acc ++ (IntKind.wrap .u8 xo :: bs))⟩]
          rw [outB_bytes]; rfl
  · skip
    repeat' (first
    | exact True.intro
    | refine fun (K : KT) hK => ?_
    | intro hcd
    | (refine go1 ?_ ?_ <;> try clear hK K)
    | fail)
    exact WS.gc [0] 1 rfl rfl .rfl
end Go.Proofs.Ytolmklnijjfppaa.Calc

namespace Go.Proofs.Ytolmklnijjfppaa.Calc
open Go Code
set_option linter.unusedSimpArgs false
set_option linter.unusedVariables false
set_option maxRecDepth 20000
set_option maxHeartbeats 8000000
attribute [local irreducible] WOpsT AW AK RK AKW UK UC
structure Dr where
  k : Int
  t : Int
  c : Int
  s : Int
  i : Int
  l : Int
  d : Int
  r : Int
  o : Int
  x : Int
abbrev dr10 (a : Dr) : List Int := [a.k, a.t, a.c, a.s, a.i, a.l, a.d, a.r, a.o, a.x]
abbrev drB (a : Dr) : Blk := ⟨1, 1, cells (dr10 a)⟩
structure Dr.Ok (a : Dr) (m : List Int) (nd : Nat) : Prop where
  k : 0 ≤ a.k ∧ a.k ≤ nd
  t : 0 ≤ a.t ∧ a.t < 4
  c : 0 ≤ a.c ∧ a.c ≤ 4
  s : 0 ≤ a.s ∧ a.s < 4
  i : 0 ≤ a.i ∧ a.i < 16
  l : 0 ≤ a.l ∧ a.l < 64
  d : 0 ≤ a.d ∧ a.d < 256
  r : 0 ≤ a.r ∧ a.r < 2
  o : 0 ≤ a.o ∧ a.o < 2
  x : 0 ≤ a.x ∧ a.x < 2
  len : m.length = 256 * nd
  nd : nd ≤ 255
  mem : Bytes m
def Dr.begin (a : Dr) (k : Int) : Dr := if 0 < a.c ∨ k % 16 < 1 ∨ 4 < k % 16 ∨ (3 ≤ k % 16 ∧ a.k = 0) then a else { a with c := k % 16, s := k / 16 % 4, i := 0, l := 30, r := if k % 16 = 4 then 1 else 0 }
def Dr.place (a : Dr) : Int := (a.k - 1) * 256 + (a.t * 4 + a.s) * 16 + a.i
def Dr.change (a : Dr) (nd : Nat) (k : Int) : Dr := if a.c = 0 then (if 0 < k ∧ k ≤ nd then { a with k := k } else { a with k := 0 }) else a
end Go.Proofs.Ytolmklnijjfppaa.Calc

namespace Go.Proofs.Ytolmklnijjfppaa.Calc
open Go Code
set_option linter.unusedSimpArgs false
set_option linter.unusedVariables false
set_option maxRecDepth 20000
set_option maxHeartbeats 8000000
attribute [local irreducible] WOpsT AW AK RK AKW UK UC
def Dr.next (a : Dr) : Dr := if a.i + 1 = 16 then { a with r := if a.c = 4 then 0 else a.r, c := 0, i := 0, l := 0 } else { a with l := 20, i := a.i + 1 }
def Dr.done (a : Dr) (m : List Int) : Dr :=
  if a.c = 1 ∨ a.c = 2 then { a with t := max 0 (min (a.t + 3 - 2 * a.c) 3), c := 0 }
  else Dr.next { a with o := max a.o a.r, d := if a.c = 3 then m.getD a.place.toNat 0 else a.d, r := 1 }
def Dr.doneM (a : Dr) (m : List Int) : List Int := if a.c = 4 then m.set a.place.toNat a.d else m
end Go.Proofs.Ytolmklnijjfppaa.Calc

namespace Go.Proofs.Ytolmklnijjfppaa.Calc
open Go Code
set_option linter.unusedSimpArgs false
set_option linter.unusedVariables false
set_option maxRecDepth 20000
set_option maxHeartbeats 8000000
attribute [local irreducible] WOpsT AW AK RK AKW UK UC
def Dr.skip : Nat → Int → Dr → List Int → Dr × List Int
  | 0, _, a, m => (a, m)
  | f + 1, k, a, m => if k ≤ 0 ∨ a.c ≤ 0 then (a, m) else if 3 ≤ a.c ∧ a.k = 0 then ({ a with c := 0 }, m) else if k < a.l then ({ a with l := a.l - k }, m)
      else Dr.skip f (k - max 1 a.l) (Dr.done { a with l := 0 } m) (Dr.doneM { a with l := 0 } m)
theorem getD_set (m : List Int) (i j : Nat) (d : Int) : (m.set i d).getD j 0 = if i = j ∧ i < m.length then d else m.getD j 0 := by
  rw [List.getD_eq_getElem?_getD, List.getD_eq_getElem?_getD, List.getElem?_set]
  by_cases h : i = j
  · subst h
    by_cases h2 : i < m.length
    · rw [if_pos rfl, if_pos h2, if_pos ⟨rfl, h2⟩]; rfl
    · rw [if_pos rfl, if_neg h2, if_neg (fun h => h2 h.2), List.getElem?_eq_none (by omega)]
  · rw [if_neg h, if_neg (fun h' => h h'.1)]
theorem Bytes.set {m : List Int} (h : Bytes m) (i : Nat) (d : Int) (hd : 0 ≤ d ∧ d < 256) : Bytes (m.set i d) := by
  intro j
  rw [getD_set]
  split
  · exact hd
  · exact h j
end Go.Proofs.Ytolmklnijjfppaa.Calc

namespace Go.Proofs.Ytolmklnijjfppaa.Calc
open Go Code
set_option linter.unusedSimpArgs false
set_option linter.unusedVariables false
set_option maxRecDepth 20000
set_option maxHeartbeats 4000000
attribute [local irreducible] WOpsT AW AK RK AKW UK UC
def cpy (z b : List Int) (o : Nat) : List Int := (List.range z.length).map fun j => if o ≤ j ∧ j < o + b.length then b.getD (j - o) 0 else z.getD j 0
theorem cpy_len (z b : List Int) (o : Nat) : (cpy z b o).length = z.length := by simp [cpy]
theorem cpy_bytes {z b : List Int} (hz : Bytes z) (hb : Bytes b) (o : Nat) : Bytes (cpy z b o) := by
  intro i
  rw [List.getD_eq_getElem?_getD]
  unfold cpy
  rw [List.getElem?_map]
  by_cases hi : i < z.length
  · rw [List.getElem?_range hi]
    simp only [Option.map_some, Option.getD_some]
    split
    · exact hb _
    · exact hz _
  · rw [List.getElem?_eq_none (by simp; omega)]
    exact ⟨Int.le_refl 0, by show (0 : Int) < 256; decide⟩
theorem cpy_eq (z b : List Int) (o : Nat) (h : o + b.length ≤ z.length) : cpy z b o = z.take o ++ b ++ z.drop (o + b.length) := by
  apply List.ext_getElem?
  intro j
  unfold cpy
  rw [List.getElem?_map]
  have e1 : (z.take o).length = o := by rw [List.length_take]; omega
  by_cases hj : j < z.length
  · rw [List.getElem?_range hj]
    simp only [Option.map_some, List.getD_eq_getElem?_getD]
    by_cases h1 : j < o
    · rw [if_neg (by omega), List.append_assoc, List.getElem?_append_left (by omega), List.getElem?_take_of_lt h1, List.getElem?_eq_getElem hj]; rfl
    · by_cases h2 : j < o + b.length
      · rw [if_pos (by omega), List.append_assoc, List.getElem?_append_right (by omega), e1, List.getElem?_append_left (by omega), List.getElem?_eq_getElem (show j - o < b.length by omega)]; rfl
      · rw [if_neg (by omega), List.getElem?_append_right (by rw [List.length_append, e1]; omega), List.length_append, e1, List.getElem?_drop, show o + b.length + (j - (o + b.length)) = j by omega, List.getElem?_eq_getElem hj]; rfl
  · rw [List.getElem?_eq_none (by simp; omega), List.getElem?_eq_none (by simp [e1]; omega)]; rfl
theorem bcells_app (a b : List Int) : bcells a ++ bcells b = bcells (a ++ b) := by simp [bcells]
section
variable {P : Program} {rest : List AOper} {tr : Tr} {fr : Fr} {h : List Blk} {K : KT} {d : Option Nat}
theorem T.copyB {t s : AO} {b ver off len : Nat} {zs ys : List Int} (ht : t.ev (lk fr) = .psl b ver off len) (hb : h[b]? = some ⟨ver, 1, bcells zs⟩) (hs : rowsOf (fun b => h[b]?) (s.ev (lk fr)) = some (1, bcells ys)) (hl : ys.length ≤ len ∧ off + len ≤ zs.length)
    (hK : WOpsT P rest (tr ++ [(b :: vlook (s.ev (lk fr)), [b])]) (put fr d (I ys.length)) (h.set b ⟨ver, 1, bcells (cpy zs ys off)⟩) K) : WOpsT P (⟨d, .copy 1 t s, none⟩ :: rest) tr fr h K :=
  T.copy ht hb hs ⟨rfl, rfl⟩ (by
    have e1 : min (bcells ys).length len = ys.length := by rw [bcells_len]; omega
    have e2 : (bcells zs).take off ++ (bcells ys).take len ++ (bcells zs).drop (off + ys.length) = bcells (cpy zs ys off) := by
      rw [cpy_eq zs ys off (by omega), bcells_take, bcells_take, bcells_drop, List.take_of_length_le hl.1, bcells_app, bcells_app]
    dsimp only
    rw [e1, e2]; exact hK)
end
theorem rows_b {bl : Nat → Option Blk} {b ver len : Nat} {ys : List Int} (hb : bl b = some ⟨ver, 1, bcells ys⟩) (hl : ys.length ≤ len) : rowsOf bl (.psl b ver 0 len) = some (1, bcells ys) := by
  unfold rowsOf
  simp only [hb]
  rw [if_pos trivial, List.drop_zero, List.take_of_length_le (by rw [bcells_len]; exact hl)]
theorem WS.bytes {h : List Blk} {b v len : Nat} {m : List Int} (hb : h[b]? = some ⟨v, 1, bcells m⟩) (hl : m.length ≤ len) : WeakS 0 (.psl b v 0 len) h (.sl 1 (bcells m)) [] :=
  WS.gc [] 1 rfl rfl (by rw [out_bytesK rfl hb hl]; exact .rfl)
theorem zerosB (n : Nat) : List.replicate n [V.c (.int .u8 0)] = bcells (List.replicate n 0) := by simp [bcells]
theorem Bytes.zeros (n : Nat) : Bytes (List.replicate n 0) := by
  intro i
  rw [List.getD_eq_getElem?_getD, List.getElem?_replicate]
  split <;> exact ⟨Int.le_refl 0, by show (0 : Int) < 256; decide⟩
theorem bsetv (m : List Int) (k : Nat) (x v : Int) : (bcells m).set k (spl [V.c (.int .u8 x)] 0 [V.c (.int .u8 v)]) = bcells (m.set k v) := by rw [← bcells_set]; rfl
theorem browv (m : List Int) (k : Nat) (hk : k < m.length) : (bcells m)[k]? = some [.c (.int .u8 m[k])] := by
  rw [bcells_get, List.getElem?_eq_getElem hk]; rfl
def ansL : List Int := [namV ⟨#[112, 104, 112]⟩, namV ⟨#[112, 104, 97]⟩, opV ⟨#[105, 110, 99]⟩ 2, 9, opV ⟨#[108, 100, 97]⟩ 4, 3, 224, opV ⟨#[108, 100, 97]⟩ 4, 16, 224, namV ⟨#[112, 108, 97]⟩, namV ⟨#[112, 108, 112]⟩, namV ⟨#[114, 116, 105]⟩]
theorem ansL_bytes : Bytes ansL := by
  have h := namV_range
  have k := opV_range
  unfold ansL
  refine .cons (.cons (.cons (.cons (.cons (.cons (.cons (.cons (.cons (.cons (.cons (.cons (.cons .nil ?_) ?_) ?_) ?_) ?_) ?_) ?_) ?_) ?_) ?_) ?_) ?_) ?_ <;> first | exact h _ | exact k _ _ | decide
def romOf (b : List Int) : List Int := (((((((((cpy (((cpy (List.replicate 256 0) b 0).set b.length (namV ⟨#[106, 109, 112]⟩)).set (b.length + 1) 0 |>.set (b.length + 2) 255) ansL 180).set 250 180).set 251 255).set 254 180).set 255 255).set 252 0).set 253 255)))
theorem romOf_len (b : List Int) : (romOf b).length = 256 := by unfold romOf; simp only [List.length_set, cpy_len, List.length_replicate]
theorem romOf_bytes (b : List Int) (hb : Bytes b) : Bytes (romOf b) := by
  unfold romOf
  refine Bytes.set (Bytes.set (Bytes.set (Bytes.set (Bytes.set (Bytes.set (cpy_bytes (Bytes.set (Bytes.set (Bytes.set (cpy_bytes (Bytes.zeros _) hb _) _ _ (namV_range _)) _ _ (by decide)) _ _ (by decide)) ansL_bytes _) _ _ (by decide)) _ _ (by decide)) _ _ (by decide)) _ _ (by decide)) _ _ (by decide)) _ _ (by decide)
theorem rom_ex (l : List Int) : ∃ m : List Int, m.length = 256 ∧ Bytes m ∧ FnE Try.prog 48 [.sl 1 (cells l)] [] (.sl 1 (bcells m)) [] := by
  obtain ⟨⟨bs, l2⟩, h1, h2, h3, hp⟩ := program_ex l 160 (by decide)
  dsimp only at h1 h2 h3 hp
  have n3 := next_ok l2 3 (by decide)
  have e3 : ∀ k : Nat, ((k : Int) + 1).toNat = k + 1 := fun k => by omega
  have e4 : ∀ k : Nat, ((k : Int) + 2).toNat = k + 2 := fun k => by omega
  have e5 : ((250 : Int) + 1).toNat = 251 := rfl
  have e6 : ((254 : Int) + 1).toNat = 255 := rfl
  have o1 := named_m ⟨#[112, 104, 112]⟩
  have o2 := named_m ⟨#[112, 104, 97]⟩
  have o3 := op_ok ⟨#[105, 110, 99]⟩ 2
  have o4 := op_ok ⟨#[108, 100, 97]⟩ 4
  have o5 := named_m ⟨#[112, 108, 97]⟩
  have o6 := named_m ⟨#[112, 108, 112]⟩
  have o7 := named_m ⟨#[114, 116, 105]⟩
  have o8 := named_m ⟨#[106, 109, 112]⟩
  have o9 := named_m ⟨#[99, 108, 105]⟩
  have hzl : (List.replicate 256 (0 : Int)).length = 256 := List.length_replicate
  by_cases hc : 0 < sval l2 3
  · refine ⟨romOf (namV ⟨#[99, 108, 105]⟩ :: bs), romOf_len _, romOf_bytes _ (h2.cons (namV_range _)), ?_⟩
    unfold romOf
    rw [List.length_cons]
    obtain ⟨c, hc9⟩ : ∃ c, namV ⟨#[99, 108, 105]⟩ = c := ⟨_, rfl⟩
    obtain ⟨q, hq⟩ : ∃ q, c :: bs = q := ⟨_, rfl⟩
    have hql : q.length = bs.length + 1 := by rw [← hq]; rfl
    rw [hc9] at o9 ⊢
    rw [hq, ← hql]
    refine N.fn Try.func48 k48 lb q48 fun Q hQ hQN => ?_
    rw [c48]
    repeat' (first
    | rw [zerosB]
    | refine T.appBs (xs := [c]) (ys := bs) rfl rfl rfl rfl ⟨by decide, by omega⟩ ?_
    | refine T.copyB (ys := q) rfl rfl (by rw [← hq]; exact rows_b rfl (by rw [List.length_cons]; omega)) ⟨by omega, by rw [hzl]; decide⟩ ?_
    | rw [e3]
    | rw [e4]
    | rw [Int.toNat_natCast]
    | (show WOpsT _ (⟨_, .st _ _ _, none⟩ :: _) _ _ _ _; refine T.st rfl rfl rfl ⟨rfl, rfl⟩ (browv _ _ (by simp only [List.length_set, cpy_len, List.length_replicate]; omega)) lb ?_)
    | rw [bsetv]
    | (show AK _ _ (.loop _) _ _ _ _; refine N.unroll 3 ?_)
    | rw [e5]
    | rw [e6]
    | refine T.copyB (ys := ansL) rfl rfl (rows_b rfl lb) ⟨lb, by simp only [List.length_set, cpy_len, List.length_replicate]; decide⟩ ?_
    | (show WOpsT _ (⟨_, .call _ _, none⟩ :: _) _ _ _ _; first | refine T.cP [0] e84 (hp) ?_ | refine T.call1 0 e37 rfl rfl (n3) ?_ | refine T.call0 e85 rfl (o1) ?_ | refine T.call0 e85 rfl (o2) ?_ | refine T.call0 e86 rfl (o3) ?_ | refine T.call0 e86 rfl (o4) ?_ | refine T.call0 e85 rfl (o5) ?_ | refine T.call0 e85 rfl (o6) ?_ | refine T.call0 e85 rfl (o7) ?_ | refine T.call0 e85 rfl (o8) ?_ | refine T.call0 e85 rfl (o9) ?_)
    | exact True.intro
    | refine fun (K : KT) hK => ?_
    | intro hcd
    | (refine go1 ?_ ?_ <;> try clear hK K)
    | fail)
    exact WS.bytes rfl (by simp only [List.length_set, cpy_len, List.length_replicate]; exact Nat.le_refl _)
  · refine ⟨romOf bs, romOf_len _, romOf_bytes _ h2, ?_⟩
    unfold romOf
    refine N.fn Try.func48 k48 lb q48 fun Q hQ hQN => ?_
    rw [c48]
    repeat' (first
    | rw [zerosB]
    | refine T.copyB (ys := bs) rfl rfl rfl ⟨by omega, by rw [hzl]; decide⟩ ?_
    | rw [e3]
    | rw [e4]
    | rw [Int.toNat_natCast]
    | (show WOpsT _ (⟨_, .st _ _ _, none⟩ :: _) _ _ _ _; refine T.st rfl rfl rfl ⟨rfl, rfl⟩ (browv _ _ (by simp only [List.length_set, cpy_len, List.length_replicate]; omega)) lb ?_)
    | rw [bsetv]
    | (show AK _ _ (.loop _) _ _ _ _; refine N.unroll 3 ?_)
    | rw [e5]
    | rw [e6]
    | refine T.copyB (ys := ansL) rfl rfl (rows_b rfl lb) ⟨lb, by simp only [List.length_set, cpy_len, List.length_replicate]; decide⟩ ?_
    | (show WOpsT _ (⟨_, .call _ _, none⟩ :: _) _ _ _ _; first | refine T.cP [0] e84 (hp) ?_ | refine T.call1 0 e37 rfl rfl (n3) ?_ | refine T.call0 e85 rfl (o1) ?_ | refine T.call0 e85 rfl (o2) ?_ | refine T.call0 e86 rfl (o3) ?_ | refine T.call0 e86 rfl (o4) ?_ | refine T.call0 e85 rfl (o5) ?_ | refine T.call0 e85 rfl (o6) ?_ | refine T.call0 e85 rfl (o7) ?_ | refine T.call0 e85 rfl (o8) ?_ | refine T.call0 e85 rfl (o9) ?_)
    | exact True.intro
    | refine fun (K : KT) hK => ?_
    | intro hcd
    | (refine go1 ?_ ?_ <;> try clear hK K)
    | fail)
    exact WS.bytes rfl (by simp only [List.length_set, cpy_len, List.length_replicate]; exact Nat.le_refl _)
end Go.Proofs.Ytolmklnijjfppaa.Calc

namespace Go.Proofs.Ytolmklnijjfppaa.Calc
open Go
set_option linter.unusedVariables false
set_option linter.unusedSimpArgs false
structure Chp where
  name : ByteArray
  kind : Int
  base : Int
  size : Int
  data : List Int
structure Wir where
  src : ByteArray
  dst : ByteArray
structure Brd where
  name : ByteArray
  cpu : Cpu
  chips : List Chp
  wires : List Wir
def chV (c : Chp) : List V := [.c (.string c.name), I c.kind, I c.base, I c.size, .sl 1 (bcells c.data)]
def wiV (w : Wir) : List V := [.c (.string w.src), .c (.string w.dst)]
def boV (b : Brd) : List V := .c (.string b.name) :: cpC b.cpu ++ [.sl 5 (b.chips.map chV), .sl 2 (b.wires.map wiV)]
def daV (l : List Int) : V := match l with
  | [] => .c (.slice none 0 0)
  | a :: l => .sl 1 (bcells (a :: l))
def chQ (c : Chp) : List V := [.c (.string c.name), I c.kind, I c.base, I c.size, daV c.data]
instance : Flat chV := ⟨fun a x hx => by simp [chV] at hx; rcases hx with rfl | rfl | rfl | rfl | rfl <;> first | exact .inl ⟨_, rfl⟩ | exact .inr ⟨_, _, rfl⟩⟩
instance : Flat wiV := ⟨fun a x hx => by simp [wiV] at hx; rcases hx with rfl | rfl <;> exact .inl ⟨_, rfl⟩⟩
instance : Flat chQ := ⟨fun a x hx => by
  obtain ⟨n, k, b, s, d⟩ := a
  cases d with
  | nil => simp [chQ, daV] at hx; rcases hx with rfl | rfl | rfl | rfl | rfl <;> exact .inl ⟨_, rfl⟩
  | cons v d => simp [chQ, daV] at hx; rcases hx with rfl | rfl | rfl | rfl | rfl <;> first | exact .inl ⟨_, rfl⟩ | exact .inr ⟨_, _, rfl⟩⟩
theorem sub_daV (l : List Int) : Sub (daV l) (.sl 1 (bcells l)) := by cases l <;> first | exact .nil | exact .rfl
def sIrq : ByteArray := ⟨#[46, 105, 114, 113]⟩
def sCpuIrq : ByteArray := ⟨#[99, 112, 117, 46, 105, 114, 113]⟩
def sChip : ByteArray := ⟨#[99, 104, 105, 112, 45]⟩
def kdN (m : Nat) : Nat := [3, 5, 4, 6, 7, 8, 2, 3].getD m 0
def szN (k : Nat) : Nat := [0, 0, 9, 4, 2, 3, 32, 8, 4].getD k 0
def chipN (i : Nat) : ByteArray := sChip ++ Utf8.encode (97 + (i : Int))
def drvD (i n k : Nat) : List Int := (List.range n).map fun j => if j < k then IntKind.wrap .u8 ((j : Int) * 7 + i) else 0
def datB (k i : Nat) (l : List Int) : List Int × List Int :=
  if k = 8 then (drvD i (256 * (1 + (sval l 2).toNat)) (256 * (1 + (sval l 2).toNat)), srest l 2)
  else if k = 2 then (bytesOf [sval l 256, sval (srest l 256) 256] (8 + 8 * (sval (srest (srest l 256) 256) 3).toNat), srest (srest (srest l 256) 256) 3)
  else ([], l)
def wirB (k : Nat) (n : ByteArray) (l : List Int) : List Wir × List Int :=
  if k = 3 ∨ k = 5 ∨ k = 8 then (if 0 < sval l 3 then [⟨n ++ sIrq, sCpuIrq⟩] else [], srest l 3) else ([], l)
def mkChp (k i : Nat) (a : Int) (d : List Int) : Chp := ⟨chipN i, k, a, szN k, d⟩
def stepBd (k i : Nat) (a : Int) (l : List Int) : Chp × List Wir × List Int :=
  (mkChp k i a (datB k i l).1, wirB k (chipN i) (datB k i l).2)
def goBd : Nat → Nat → Int → List Chp → List Wir → List Int → List Chp × List Wir × List Int
  | 0, _, _, cs, ws, l => (cs, ws, l)
  | n + 1, i, a, cs, ws, l =>
    goBd n (i + 1) (a + ((szN (kdN (sval l 8).toNat) : Int) + 15) / 16 * 16) (cs ++ [(stepBd (kdN (sval l 8).toNat) i a (srest l 8)).1]) (ws ++ (stepBd (kdN (sval l 8).toNat) i a (srest l 8)).2.1) (stepBd (kdN (sval l 8).toNat) i a (srest l 8)).2.2
def ramC : Chp := ⟨⟨#[114, 97, 109]⟩, 0, 0, 768, []⟩
noncomputable def romD (l : List Int) : List Int := (rom_ex l).choose
noncomputable def romC (l : List Int) : Chp := ⟨⟨#[114, 111, 109]⟩, 1, 65280, 256, romD l⟩
def bdOf (l : List Int) : List Chp × List Wir × List Int := goBd (sval l 5).toNat 0 57344 [ramC] [] (srest l 5)
noncomputable def mkBrd (l : List Int) : Brd := ⟨⟨#[98, 111, 97, 114, 100]⟩, stdM, (bdOf l).1 ++ [romC (bdOf l).2.2], (bdOf l).2.1⟩
theorem romD_ok (l : List Int) : (romD l).length = 256 ∧ Bytes (romD l) ∧ FnE Try.prog 48 [.sl 1 (cells l)] [] (.sl 1 (bcells (romD l))) [] := (rom_ex l).choose_spec
theorem drvD_len (i n k : Nat) : (drvD i n k).length = n := by simp [drvD]
theorem drvD_zero (i n : Nat) : drvD i n 0 = List.replicate n 0 := by
  apply List.ext_getElem?
  intro j
  simp only [drvD, List.getElem?_map, List.getElem?_replicate, Nat.not_lt_zero, if_false]
  by_cases hj : j < n
  · rw [if_pos hj, List.getElem?_range hj]; rfl
  · rw [if_neg hj, List.getElem?_eq_none (by simp; omega)]; rfl
theorem drvD_set (i n k : Nat) (hk : k < n) : (drvD i n k).set k (IntKind.wrap .u8 ((k : Int) * 7 + i)) = drvD i n (k + 1) := by
  apply List.ext_getElem?
  intro j
  simp only [drvD]
  by_cases hij : k = j
  · subst hij
    rw [List.getElem?_set_self (by simpa using hk), List.getElem?_map, List.getElem?_range hk]
    simp
  · rw [List.getElem?_set_ne hij, List.getElem?_map, List.getElem?_map]
    by_cases hj : j < n
    · rw [List.getElem?_range hj]
      simp only [Option.map_some]
      by_cases h2 : j < k
      · rw [if_pos h2, if_pos (by omega)]
      · rw [if_neg h2, if_neg (by omega)]
    · rw [List.getElem?_eq_none (by simp; omega)]; rfl
theorem drvD_bytes (i n k : Nat) : Bytes (drvD i n k) := by
  intro j
  simp only [drvD, List.getD_eq_getElem?_getD, List.getElem?_map]
  by_cases hi : j < n
  · rw [List.getElem?_range hi]
    simp only [Option.map_some, Option.getD_some]
    split
    · exact wrapB _
    · exact ⟨Int.le_refl 0, by decide⟩
  · rw [List.getElem?_eq_none (by simp; omega)]
    exact ⟨Int.le_refl 0, by show (0 : Int) < 256; decide⟩
theorem kdN_r (m : Nat) (h : m < 8) : 2 ≤ kdN m ∧ kdN m ≤ 8 := by
  match m with
  | 0 => decide
  | 1 => decide
  | 2 => decide
  | 3 => decide
  | 4 => decide
  | 5 => decide
  | 6 => decide
  | 7 => decide
theorem szN_r (k : Nat) : szN k ≤ 32 := by
  match k with
  | 0 => decide
  | 1 => decide
  | 2 => decide
  | 3 => decide
  | 4 => decide
  | 5 => decide
  | 6 => decide
  | 7 => decide
  | 8 => decide
  | k + 9 => exact Nat.zero_le _
theorem kd_rows (m : Nat) (h : m < 8) : ([[I 3], [I 5], [I 4], [I 6], [I 7], [I 8], [I 2], [I 3]] : List (List V))[m]? = some [I (kdN m : Nat)] := by
  match m with
  | 0 => rfl
  | 1 => rfl
  | 2 => rfl
  | 3 => rfl
  | 4 => rfl
  | 5 => rfl
  | 6 => rfl
  | 7 => rfl
theorem sz_rows (k : Nat) (h : k < 9) : ([[I 0], [I 0], [I 9], [I 4], [I 2], [I 3], [I 32], [I 8], [I 4]] : List (List V))[k]? = some [I (szN k : Nat)] := by
  match k with
  | 0 => rfl
  | 1 => rfl
  | 2 => rfl
  | 3 => rfl
  | 4 => rfl
  | 5 => rfl
  | 6 => rfl
  | 7 => rfl
  | 8 => rfl
theorem wrapi32 (n : Int) (h : 0 ≤ n ∧ n < 1000) : IntKind.wrap .i32 n = n := by
  simp [IntKind.wrap, IntKind.signed, IntKind.bits]; omega
theorem encSize : ∀ v : Nat, v < 26 → (Utf8.encode (97 + (v : Int))).size = 1 := by decide +kernel
theorem chipN_size (i : Nat) (h : i < 26) : (chipN i).size = 6 := by
  unfold chipN
  rw [ByteArray.size_append, encSize i h]; rfl
theorem catV (a b : ByteArray) (ha : a.size ≤ 1000 ∧ b.size ≤ 1000) : binV .add (.string a) (.string b) = some (.string (a ++ b)) := by
  simp only [binV]
  rw [if_pos (by omega)]
end Go.Proofs.Ytolmklnijjfppaa.Calc

namespace Go.Proofs.Ytolmklnijjfppaa.Calc
open Go Code
set_option linter.unusedSimpArgs false
set_option linter.unusedVariables false
set_option maxRecDepth 20000
set_option maxHeartbeats 4000000
attribute [local irreducible] WOpsT AW AK RK AKW UK UC
def cR (nm : ByteArray) (k b s : Int) (d : List Int) : List V := [.c (.string nm), I k, I b, I s, .sl 1 (bcells d)]
section
variable (nm : ByteArray) (b : Int) (d : List Int)
def rdK (n : Int) (m : List Int) (a : Int) : Int := if a = 0 then n else m.getD (n * 8 + a - 1).toNat 0
end
end Go.Proofs.Ytolmklnijjfppaa.Calc

namespace Go.Proofs.Ytolmklnijjfppaa.Calc
open Go Code
set_option linter.unusedSimpArgs false
set_option linter.unusedVariables false
set_option maxRecDepth 20000
attribute [local irreducible] WOpsT AW AK RK AKW
abbrev TimOk (a b c f : Int) : Prop := 0 ≤ a ∧ a < 65536 ∧ 0 ≤ b ∧ b < 65536 ∧ 0 ≤ c ∧ c < 8 ∧ 0 ≤ f ∧ f < 2
def skip4 (a b c f s : Int) : List Int :=
  if s ≤ 0 then [a, b, c, f] else if c % 2 = 0 then [a, b, c, f] else if s ≤ a then [a - s, b, c, f]
  else if c / 2 % 2 = 1 then [b - (s - a - 1) % (b + 1), b, c, 1] else [0, b, c - c % 2, 1]
end Go.Proofs.Ytolmklnijjfppaa.Calc

namespace Go.Proofs.Ytolmklnijjfppaa.Calc
open Go Code
set_option linter.unusedSimpArgs false
set_option linter.unusedVariables false
set_option maxRecDepth 20000
set_option maxHeartbeats 2000000
attribute [local irreducible] WOpsT AW AK RK AKW
abbrev SerOk (s l g f o c n z : Int) : Prop := (0 ≤ s ∧ s < 256) ∧ (0 ≤ l ∧ l < 64) ∧ (0 ≤ g ∧ g < 256) ∧ (0 ≤ f ∧ f < 2) ∧ (0 ≤ o ∧ o < 2) ∧ (0 ≤ c ∧ c < 4) ∧ (0 ≤ n ∧ n < 1048576) ∧ (0 ≤ z ∧ z < 256)
def serSkip (s l g f o c n z k : Int) : List Int := if k ≤ 0 ∨ l = 0 then [s, l, g, f, o, c, n, z] else if k < l then [s, l - k, g, f, o, c, n, z] else [s, 0, g, f, o, c, (n + 1) % 2 ^ 20, s]
end Go.Proofs.Ytolmklnijjfppaa.Calc

namespace Go.Proofs.Ytolmklnijjfppaa.Calc
open Go Code
set_option linter.unusedSimpArgs false
set_option linter.unusedVariables false
set_option maxRecDepth 20000
set_option maxHeartbeats 4000000
attribute [local irreducible] WOpsT AW AK RK AKW UK UC
def vvis (p : Int) : Prop := p % 64 < 48 ∧ p / 64 < 32
instance (p : Int) : Decidable (vvis p) := by unfold vvis; exact inferInstance
def vcell (m : List Int) (p : Int) : Int := m.getD (8 + p / 64 / 8 * 6 + p % 64 / 8).toNat 0 % 16
def vspr (m : List Int) (p : Int) : Prop := 0 ≤ p % 64 - m.getD 1 0 ∧ p % 64 - m.getD 1 0 < 8 ∧ 0 ≤ p / 64 - m.getD 2 0 ∧ p / 64 - m.getD 2 0 < 8 ∧ m.getD 4 0 / 2 ^ (7 - (p % 64 - m.getD 1 0)).toNat % 2 = 1
instance (m : List Int) (p : Int) : Decidable (vspr m p) := by unfold vspr; exact inferInstance
def vcol (m : List Int) (p : Int) : Int := if ¬ vvis p then m.getD 0 0 % 16 else if vspr m p then m.getD 3 0 % 16 else vcell m p
def vhit (m : List Int) (p : Int) : Prop := vvis p ∧ vspr m p ∧ vcell m p ≠ 0
instance (m : List Int) (p : Int) : Decidable (vhit m p) := by unfold vhit; exact inferInstance
end Go.Proofs.Ytolmklnijjfppaa.Calc

namespace Go.Proofs.Ytolmklnijjfppaa.Calc
open Go Code
set_option linter.unusedSimpArgs false
set_option linter.unusedVariables false
set_option maxRecDepth 20000
set_option maxHeartbeats 4000000
attribute [local irreducible] WOpsT AW AK RK AKW UK UC
structure VidOk (p h : Int) (m : List Int) : Prop where
  pos : 0 ≤ p ∧ p < 2560
  hit : 0 ≤ h ∧ h < 2
  len : m.length = 32
  mem : Bytes m
def vpos (p : Int) (i : Nat) : Int := (p + i) % 2560
def vhitN (m : List Int) (p h : Int) : Nat → Int
  | 0 => h
  | i + 1 => if vhit m (vpos p (i + 1)) then 1 else vhitN m p h i
def vrounds (k : Int) : Nat := (if k > 5120 then 2560 + k % 2560 else k).toNat
def NextOf (m : List Int) (p n : Int) : Prop := (n = 100000 ∧ ∀ j : Nat, j < 2560 → vcol m (vpos p (j + 1)) = vcol m p) ∨ (0 ≤ n ∧ n < 2560 ∧ (∀ j : Nat, (j : Int) < n → vcol m (vpos p (j + 1)) = vcol m p) ∧ vcol m (vpos p (n.toNat + 1)) ≠ vcol m p)
def vread (p h : Int) (m : List Int) (a : Int) : Int := if a = 5 then p / 64 else if a = 6 then p % 64 else if a = 7 then h else m.getD a.toNat 0
end Go.Proofs.Ytolmklnijjfppaa.Calc

namespace Go.Proofs.Ytolmklnijjfppaa.Calc
structure Vo where
  p : Int
  v : Int
  r : Int
  c : Int
  f : Int
  w : Int
def Vo.list (x : Vo) : List Int := [x.p, x.v, x.r, x.c, x.f, x.w]
def Vo.Ok (x : Vo) : Prop := (0 ≤ x.p ∧ x.p < 4096) ∧ (0 ≤ x.v ∧ x.v < 16) ∧ (0 ≤ x.r ∧ x.r < 256) ∧ (0 ≤ x.c ∧ x.c < 4096) ∧ (0 ≤ x.f ∧ x.f < 2) ∧ (0 ≤ x.w ∧ x.w < 16384)
def Vo.pass (x : Vo) (k : Int) : Vo where
  p := x.p
  v := if 0 < x.r ∧ 0 < x.v then (if x.r * 64 ≤ x.w + k then x.v - 1 else x.v) else x.v
  r := x.r
  c := if 0 < x.p then (if x.p ≤ x.c + k then 0 else x.c + k) else x.c
  f := if 0 < x.p then (if x.p ≤ x.c + k then 1 - x.f else x.f) else x.f
  w := if 0 < x.r ∧ 0 < x.v then (if x.r * 64 ≤ x.w + k then 0 else x.w + k) else x.w
def Vo.quiet (x : Vo) : Int :=
  let a := if 0 < x.p then min 100000 (max 1 (x.p - x.c) - 1) else 100000
  if 0 < x.r ∧ 0 < x.v then min a (max 1 (x.r * 64 - x.w) - 1) else a
def Vo.ticks : Nat → Vo → Vo
  | 0, x => x
  | n + 1, x => Vo.ticks n (x.pass 1)
theorem Vo.ticks_succ (n : Nat) : ∀ x : Vo, Vo.ticks (n + 1) x = (Vo.ticks n x).pass 1 := by
  induction n with
  | zero => intro x; rfl
  | succ n ih => intro x; rw [Vo.ticks, ih]; rfl
theorem Vo.turns (P v : Int) (hP : 0 < P ∧ P < 4096) (n : Nat) : Vo.ticks n ⟨P, v, 0, 0, 0, 0⟩ = ⟨P, v, 0, n % P, n / P % 2, 0⟩ := by
  induction n with
  | zero => simp [Vo.ticks]
  | succ n ih =>
    rw [Vo.ticks_succ, ih]
    unfold Vo.pass
    dsimp only
    have h1 := Int.emod_nonneg (n : Int) (show P ≠ 0 by omega)
    have h2 := Int.emod_lt_of_pos (n : Int) hP.1
    have h3 := Int.emod_add_mul_ediv (n : Int) P
    have h4 : ((n + 1 : Nat) : Int) = (n : Int) % P + 1 + P * ((n : Int) / P) := by omega
    by_cases h : P ≤ (n : Int) % P + 1
    · have e : ((n + 1 : Nat) : Int) = P * ((n : Int) / P + 1) := by rw [h4, Int.mul_add]; omega
      have d1 : ((n + 1 : Nat) : Int) % P = 0 := by rw [e]; exact Int.mul_emod_right _ _
      have d2 : ((n + 1 : Nat) : Int) / P = (n : Int) / P + 1 := by rw [e]; exact Int.mul_ediv_cancel_left _ (by omega)
      rw [d1, d2]
      simp only [if_pos hP.1, if_pos h]
      congr 1
      omega
    · have d1 : ((n + 1 : Nat) : Int) % P = (n : Int) % P + 1 := by
        rw [h4, Int.add_mul_emod_self_left]; exact Int.emod_eq_of_lt (by omega) (by omega)
      have d2 : ((n + 1 : Nat) : Int) / P = (n : Int) / P := by
        rw [h4, Int.add_mul_ediv_left _ _ (by omega), Int.ediv_eq_zero_of_lt (by omega) (by omega)]; omega
      rw [d1, d2]
      simp only [if_pos hP.1, if_neg h]
      rfl
theorem Vo.fades (R : Int) (hR : 0 < R ∧ R < 256) : ∀ (n : Nat) (v : Int), 0 ≤ v → (n : Int) ≤ 64 * R * v → Vo.ticks n ⟨0, v, R, 0, 0, 0⟩ = ⟨0, v - n / (64 * R), R, 0, 0, n % (64 * R)⟩ := by
  intro n v hv hn
  induction n with
  | zero => simp [Vo.ticks]
  | succ n ih =>
    rw [Vo.ticks_succ, ih (by omega)]
    unfold Vo.pass
    dsimp only
    obtain ⟨D, hD⟩ : ∃ D, 64 * R = D := ⟨_, rfl⟩
    have hD1 : 0 < D := by omega
    rw [hD] at hn ⊢
    have h1 := Int.emod_nonneg (n : Int) (show D ≠ 0 by omega)
    have h2 := Int.emod_lt_of_pos (n : Int) hD1
    have h3 := Int.emod_add_mul_ediv (n : Int) D
    have h4 : ((n + 1 : Nat) : Int) = (n : Int) % D + 1 + D * ((n : Int) / D) := by omega
    have hv1 : 0 < v - (n : Int) / D := by
      have : (n : Int) / D < v := Int.ediv_lt_of_lt_mul hD1 (by rw [Int.mul_comm]; omega)
      omega
    by_cases h : D ≤ (n : Int) % D + 1
    · have e : ((n + 1 : Nat) : Int) = D * ((n : Int) / D + 1) := by rw [h4, Int.mul_add]; omega
      have d1 : ((n + 1 : Nat) : Int) % D = 0 := by rw [e]; exact Int.mul_emod_right _ _
      have d2 : ((n + 1 : Nat) : Int) / D = (n : Int) / D + 1 := by rw [e]; exact Int.mul_ediv_cancel_left _ (by omega)
      rw [d1, d2]
      have q0 : ¬ ((0 : Int) < 0) := by decide
      have q1 : 0 < R ∧ 0 < v - (n : Int) / D := ⟨hR.1, hv1⟩
      have q2 : R * 64 ≤ (n : Int) % D + 1 := by omega
      simp only [if_neg q0, if_pos q1, if_pos q2]
      congr 1
      omega
    · have d1 : ((n + 1 : Nat) : Int) % D = (n : Int) % D + 1 := by
        rw [h4, Int.add_mul_emod_self_left]; exact Int.emod_eq_of_lt (by omega) (by omega)
      have d2 : ((n + 1 : Nat) : Int) / D = (n : Int) / D := by
        rw [h4, Int.add_mul_ediv_left _ _ (by omega), Int.ediv_eq_zero_of_lt (by omega) (by omega)]; omega
      rw [d1, d2]
      have q0 : ¬ ((0 : Int) < 0) := by decide
      have q1 : 0 < R ∧ 0 < v - (n : Int) / D := ⟨hR.1, hv1⟩
      have q2 : ¬ R * 64 ≤ (n : Int) % D + 1 := by omega
      simp only [if_neg q0, if_pos q1, if_neg q2]
end Go.Proofs.Ytolmklnijjfppaa.Calc

namespace Go.Proofs.Ytolmklnijjfppaa.Calc
open Go Code
set_option linter.unusedSimpArgs false
set_option linter.unusedVariables false
set_option maxRecDepth 20000
set_option maxHeartbeats 8000000
attribute [local irreducible] WOpsT AW AK RK AKW UK UC
abbrev vo2 (x y : Vo) : List Int := [x.p, x.v, x.r, x.c, x.f, x.w, y.p, y.v, y.r, y.c, y.f, y.w]
abbrev vo2B (x y : Vo) : Blk := ⟨1, 1, cells (vo2 x y)⟩
end Go.Proofs.Ytolmklnijjfppaa.Calc

namespace Go.Proofs.Ytolmklnijjfppaa.Calc
open Go Code
set_option linter.unusedSimpArgs false
set_option linter.unusedVariables false
set_option maxRecDepth 20000
set_option maxHeartbeats 8000000
attribute [local irreducible] WOpsT AW AK RK AKW UK UC
end Go.Proofs.Ytolmklnijjfppaa.Calc

namespace Go.Proofs.Ytolmklnijjfppaa.Calc
open Go Code
set_option linter.unusedSimpArgs false
set_option linter.unusedVariables false
set_option maxRecDepth 20000
set_option maxHeartbeats 8000000
attribute [local irreducible] WOpsT AW AK RK AKW UK UC
end Go.Proofs.Ytolmklnijjfppaa.Calc

namespace Go.Proofs.Ytolmklnijjfppaa.Calc
open Go Code
set_option linter.unusedSimpArgs false
set_option linter.unusedVariables false
set_option maxRecDepth 20000
set_option maxHeartbeats 4000000
attribute [local irreducible] WOpsT AW AK RK AKW UK UC
abbrev PortOk (a b c : Int) : Prop := (0 ≤ a ∧ a < 256) ∧ (0 ≤ b ∧ b < 256) ∧ (0 ≤ c ∧ c < 256)
end Go.Proofs.Ytolmklnijjfppaa.Calc

namespace Go.Proofs.Ytolmklnijjfppaa.Calc
open Go Code
set_option linter.unusedSimpArgs false
set_option linter.unusedVariables false
set_option maxRecDepth 20000
set_option maxHeartbeats 4000000
attribute [local irreducible] WOpsT AW AK RK AKW UK UC
section
variable (nm : ByteArray) (b s : Int) (dat : List Int)
end
end Go.Proofs.Ytolmklnijjfppaa.Calc

namespace Go.Proofs.Ytolmklnijjfppaa.Calc
open Go Code
set_option linter.unusedSimpArgs false
set_option linter.unusedVariables false
set_option maxRecDepth 20000
set_option maxHeartbeats 4000000
abbrev Dv := List Int × List Int
def dvC (d : Dv) : List V := [.sl 1 (cells d.1), .sl 1 (bcells d.2)]
inductive VKind (c : Chp) : Prop where
  | mem (z : Nat) (hk : c.kind = 0 ∨ c.kind = 1) (hs : c.size = z) (h1 : 1 ≤ z ∧ z ≤ 4096) (hd : c.data.length ≤ z) (hb : Bytes c.data)
  | bank (nb : Nat) (hk : c.kind = 2) (hs : c.size = 9) (h1 : 1 ≤ nb ∧ nb ≤ 3) (hd : c.data.length = 8 * nb) (hb : Bytes c.data)
  | dev (hk : c.kind = 3 ∨ c.kind = 4 ∨ c.kind = 5 ∨ c.kind = 6 ∨ c.kind = 7) (hs : c.size = szN c.kind.toNat) (hd : c.data = [])
  | drive (nd : Nat) (hk : c.kind = 8) (hs : c.size = 4) (hn : nd ≤ 16) (hd : c.data.length = 256 * nd) (hb : Bytes c.data)
inductive DvOk (c : Chp) : Dv → Prop where
  | mem (z : Nat) (hk : c.kind = 0 ∨ c.kind = 1) (hs : c.size = z) (h1 : 1 ≤ z ∧ z ≤ 4096) (m : List Int) (hm : m.length = z) (hb : Bytes m) : DvOk c ([], m)
  | bank (nb : Nat) (hk : c.kind = 2) (hs : c.size = 9) (h1 : 1 ≤ nb ∧ nb ≤ 3) (hd : c.data.length = 8 * nb) (n : Int) (hn : 0 ≤ n ∧ n < nb) (m : List Int) (hm : m.length = 8 * nb) (hb : Bytes m) : DvOk c ([n], m)
  | timer (hk : c.kind = 3) (hs : c.size = 4) (x y a f : Int) (h : TimOk x y a f) : DvOk c ([x, y, a, f], [])
  | port (hk : c.kind = 4) (hs : c.size = 2) (x y z : Int) (h : PortOk x y z) : DvOk c ([x, y, z], [])
  | serial (hk : c.kind = 5) (hs : c.size = 3) (s l g f o a n z : Int) (h : SerOk s l g f o a n z) : DvOk c ([s, l, g, f, o, a, n, z], [])
  | video (hk : c.kind = 6) (hs : c.size = 32) (p q : Int) (m : List Int) (h : VidOk p q m) : DvOk c ([p, q], m)
  | sound (hk : c.kind = 7) (hs : c.size = 8) (x y : Vo) (hx : x.Ok) (hy : y.Ok) : DvOk c (vo2 x y, [])
  | drive (nd : Nat) (hk : c.kind = 8) (hs : c.size = 4) (a : Dr) (m : List Int) (h : a.Ok m nd) : DvOk c (dr10 a, m)
def skipV (c : Chp) (t : Nat) (d : Dv) : Dv :=
  if c.kind = 3 then match d.1 with
    | [x, y, a, f] => (skip4 x y a f t, [])
    | _ => d
  else if c.kind = 5 then match d.1 with
    | [s, l, g, f, o, a, n, z] => (serSkip s l g f o a n z t, [])
    | _ => d
  else if c.kind = 6 then match d.1 with
    | [p, q] => ([vpos p t, vhitN d.2 p q t], d.2)
    | _ => d
  else if c.kind = 7 then match d.1 with
    | [p, v, r, e, f, w, p', v', r', e', f', w'] => (vo2 (Vo.ticks t ⟨p, v, r, e, f, w⟩) (Vo.ticks t ⟨p', v', r', e', f', w'⟩), [])
    | _ => d
  else if c.kind = 8 then match d.1 with
    | [k, u, e, s, i, l, a, r, o, x] => (dr10 (Dr.skip t t ⟨k, u, e, s, i, l, a, r, o, x⟩ d.2).1, (Dr.skip t t ⟨k, u, e, s, i, l, a, r, o, x⟩ d.2).2)
    | _ => d
  else d
end Go.Proofs.Ytolmklnijjfppaa.Calc

namespace Go.Proofs.Ytolmklnijjfppaa.Calc
open Go
set_option linter.unusedVariables false
set_option linter.unusedSimpArgs false
end Go.Proofs.Ytolmklnijjfppaa.Calc

namespace Go.Proofs.Ytolmklnijjfppaa.Calc
open Go Code
set_option linter.unusedSimpArgs false
set_option linter.unusedVariables false
set_option maxRecDepth 20000
set_option maxHeartbeats 4000000
attribute [local irreducible] WOpsT AW AK RK AKW UK UC
def stV (l : List Stp) : V := match l with
  | [] => .c (.slice none 0 0)
  | a :: l => .sl 4 ((a :: l).map stC)
def cyQ (c : Cyc) : List V := [I c.bus, I c.at_, I c.reg, stV c.steps]
instance : Flat cyQ := ⟨fun a x hx => by
  obtain ⟨b, t, r, ss⟩ := a
  cases ss with
  | nil => simp [cyQ, stV] at hx; rcases hx with rfl | rfl | rfl | rfl <;> exact .inl ⟨_, rfl⟩
  | cons s ss => simp [cyQ, stV] at hx; rcases hx with rfl | rfl | rfl | rfl <;> first | exact .inl ⟨_, rfl⟩ | exact .inr ⟨_, _, rfl⟩⟩
theorem sub_rows {α : Type} (f g : α → List V) (e : Nat) (hg : ∀ a, (g a).length = e) (hs : ∀ a (j : Nat), (∀ y, (g a)[j]? = some y → ∃ x, (f a)[j]? = some x ∧ Sub x y)) (l : List α) : Sub (.sl e (l.map f)) (.sl e (l.map g)) := by
  refine .sl (by simp) (fun row hr => ?_) (fun i j b hb => ?_) (fun i j a b ha hb => ?_)
  · obtain ⟨a, _, rfl⟩ := List.mem_map.1 hr; exact hg a
  · unfold cellOf at *
    rw [List.getElem?_map] at *
    cases hl : l[i]? with
    | none => rw [hl] at hb; cases hb
    | some a =>
      rw [hl] at hb
      obtain ⟨x, h1, _⟩ := hs a j b hb
      exact ⟨x, h1⟩
  · unfold cellOf at *
    rw [List.getElem?_map] at *
    cases hl : l[i]? with
    | none => rw [hl] at hb; cases hb
    | some q =>
      rw [hl] at ha hb
      obtain ⟨x, h1, h2⟩ := hs q j b hb
      have ha : (f q)[j]? = some a := ha
      rw [h1] at ha; cases ha; exact h2
def goReads : Nat → List Cyc → List Int → List Cyc × List Int
  | 0, acc, l => (acc, l)
  | n + 1, acc, l => goReads n (acc ++ [⟨1, 0, sval l 7, []⟩]) (srest l 7)
def moreC (l : List Int) : Cyc × List Int := if sval l 3 = 0 then (⟨0, 0, 0, []⟩, srest l 3) else (⟨sval l 3, 1 + sval (srest l 3) 11, sval (srest (srest l 3) 11) 7, []⟩, srest (srest (srest l 3) 11) 7)
def goMore : Nat → List Cyc → List Int → List Cyc × List Int
  | 0, acc, l => (acc, l)
  | n + 1, acc, l => goMore n (acc ++ [(moreC l).1]) (moreC l).2
def goSteps : Nat → List Int → List Stp × List Int
  | 0, l => ([], l)
  | 1, l => ([(mkStep l).1], (mkStep l).2)
  | _ + 2, l => ([(mkStep l).1, (mkStep (mkStep l).2).1], (mkStep (mkStep l).2).2)
def goFill : List Cyc → List Cyc → List Int → List Cyc × List Int
  | [], acc, l => (acc, l)
  | c :: todo, acc, l => goFill todo (acc ++ [⟨c.bus, c.at_, c.reg, (goSteps (sval l 3).toNat (srest l 3)).1⟩]) (goSteps (sval l 3).toNat (srest l 3)).2
def mkReads (n : Nat) (l : List Int) : List Cyc × List Int := goReads n [] l
def mkMore (n : Nat) (l : List Int) : List Cyc × List Int := goMore (sval (mkReads n l).2 4).toNat (mkReads n l).1 (srest (mkReads n l).2 4)
def mkCycles (n : Nat) (l : List Int) : List Cyc × List Int := goFill (mkMore n l).1 [] (mkMore n l).2
def rwQ (done todo : List Cyc) (b a r : Int) (x : V) : List (List V) := done.map cyQ ++ [I b, I a, I r, x] :: todo.map cyQ
end Go.Proofs.Ytolmklnijjfppaa.Calc

