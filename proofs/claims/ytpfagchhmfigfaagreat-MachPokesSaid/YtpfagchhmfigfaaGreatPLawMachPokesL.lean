/- Several texts in one (FnTCheck, FnBoard, FnMach, FnMachA, FnMachB, FnMachC, PureRange), for the proof of LawMachPokes. No condition beyond those in each lemma. -/
import Derived.Test.YtpfagchhmfigfaaGreatPLawMachPokesE
import Derived.Test.YtpfagchhmfigfaaGreatPLawMachPokesK
import Derived.Test.YtpfagchhmfigfaaGreatPLawMachPokesD
import Derived.Test.YtpfagchhmfigfaaGreatPLawMachPokesJ
namespace Go.Proofs.YtpfagchhmfigfaaGreat.Calc
open Go Code
set_option linter.unusedSimpArgs false
set_option linter.unusedVariables false
set_option maxRecDepth 20000
set_option maxHeartbeats 4000000
attribute [local irreducible] WOpsT AW AK RK AKW UK UC
structure VIns (x : Ins) : Prop where
  op : 0 ≤ x.op ∧ x.op ≤ 255
  name : VName x.name
  mode : 0 ≤ sizeM x.mode
  cy : VCycs x.cy
  opnd : opnd x.cy = sizeM x.mode
structure VCpu (c : Cpu) : Prop where
  name : VName c.name
  num : c.ins.length ≤ 256
  ins : ∀ x ∈ c.ins, VIns x
  order : ∀ i (h : i + 1 < c.ins.length), c.ins[i].op < c.ins[i + 1].op
  once : ∀ i j (h : j < c.ins.length) (hij : i < j), ¬ (c.ins[i].name = c.ins[j].name ∧ c.ins[i].mode = c.ins[j].mode)
  res : VCycs c.res
  irq : VCycs c.irq
  nmi : VCycs c.nmi
theorem tcheck_ok (c : Cpu) (hc : VCpu c) : FnE Tryz.prog 109 [.agg (cpC c)] [] (I 0) [] := by
  obtain ⟨hn, hl, hi, ho, hu, h1, h2, h3⟩ := hc
  obtain ⟨nm, ins, r1, r2, r3⟩ := c
  dsimp only at hn hl hi ho hu h1 h2 h3
  have hnm := name_ok nm hn
  have c1 := cycles_ok r1 h1
  have c2 := cycles_ok r2 h2
  have c3 := cycles_ok r3 h3
  unfold cpC
  dsimp only
  refine N.fn Tryz.func109 k109 lb q109 fun Q hQ hQN => ?_
  rw [c109]
  repeat' (first
  | rw [List.length_map]
  | refine T.call0 e108 rfl (hnm) ?_
  | exact True.intro
  | refine fun (K : KT) hK => ?_
  | intro hcd
  | (refine go1 ?_ ?_ <;> try clear hK K)
  | fail)
  all_goals first
    | (exfalso; omega)
    | skip
  refine N.loop (σ := Nat) (fun i => [(1, .ptr 0 1 0 0), (20, .sl 4 (ins.map inC)), (21, I ins.length), (22, I i)]) (fun i => [⟨1, 5, [[.c (.string nm), .sl 4 (ins.map inC), .sl 4 (r1.map cyC), .sl 4 (r2.map cyC), .sl 4 (r3.map cyC)]]⟩]) (fun i => i ≤ ins.length) (fun i => ins.length - i) 0 (Nat.zero_le _) (Weaks.sel (by repeat (first | exact trivial | refine ⟨.rfl, ?_⟩ | refine ⟨.any, ?_⟩)) rfl) fun i hi2 R hC => ?_
  by_cases hil : i < ins.length
  · have hm := mget inC ins i hil
    have hx := hi _ (List.getElem_mem hil)
    have hpre : ¬ (0 ≤ idxI (fun y => decide (y.name = ins[i].name ∧ y.mode = ins[i].mode)) (ins.take i)) := by
      rw [idxI_none]
      · decide
      · intro j hj
        have hj2 : j < i := by rw [List.length_take] at hj; omega
        rw [List.getElem_take]
        exact decide_eq_false (hu j i hil hj2)
    have hct := containsI 186 e186 ins[i] (ins.take i) (fun y => decide (y.name = ins[i].name ∧ y.mode = ins[i].mode)) (by rw [List.length_take]; omega) (fun y _ => check1_ok y ins[i])
    rw [decide_eq_false hpre] at hct
    have hord : ∀ (h0 : 0 < i), ins[i - 1].op < ins[i].op := fun h0 => by
      have := ho (i - 1) (by omega)
      have e : i - 1 + 1 = i := by omega
      simp only [e] at this
      exact this
    have hm0 : 0 < i → (ins.map inC)[i - 1]? = some (inC (ins[i - 1]'(by omega))) := fun h0 => by rw [List.getElem?_map, List.getElem?_eq_getElem (by omega)]; rfl
    obtain ⟨v1, v2, v3, v4, v5⟩ := hx
    have hsz := size_ok ins[i].mode
    have hnx := name_ok _ v2
    have hcy := cycles_ok _ v4
    have hop := operand_ok _ v4.1
    rw [v5] at hop
    have e1 : ((i : Int) - 1).toNat = i - 1 := by omega
    have e2 : (List.drop (Int.toNat 0) (ins.map inC)).take ((i : Int).toNat - Int.toNat 0) = (ins.take i).map inC := by
      rw [show Int.toNat 0 = 0 from rfl, List.drop_zero, Int.toNat_natCast, Nat.sub_zero, List.map_take]
    have e3 : (ins.map inC).take i = (ins.take i).map inC := List.map_take.symm
    by_cases h0 : i = 0
    · subst h0
      generalize ins[0] = x at *
      obtain ⟨xo, xn, xm, xc⟩ := x
      dsimp only [inC] at hm v1 v2 v3 v4 v5 hsz hnx hcy hop hct
      repeat' (first
      | rw [e3]
      | (show WOpsT _ (⟨_, .idx _ _ _ _, none⟩ :: _) _ _ _ _; refine T.idxs rfl rfl rfl (by omega) hm ?_)
      | (show WOpsT _ (⟨_, .call _ _, none⟩ :: _) _ _ _ _; first | refine T.call0 e108 rfl (hnx) ?_ | refine T.call0 e184 rfl (hsz) ?_ | refine T.callQ [1] e185 rfl (hct) (by first | rfl | exact pasH_nil | (unfold pasH; simp only [List.map]; (repeat' (first | rfl | exact pasB_bytes | exact pasB_ints | exact pasB_flat | refine consE ?_ ?_)); done) | simp [pasH, pasB, cells_pas, bcells_pas]) rfl rfl rfl (by first | rfl | ((repeat' (first | rfl | exact renB_bytes | exact renB_ints | exact renB_flat | refine consE ?_ ?_)); done) | simp [renB, cells_ren, bcells_ren]) ?_ | refine T.call0 e187 rfl (hcy) ?_ | refine T.call0 e188 rfl (hop) ?_)
      | exact True.intro
      | refine fun (K : KT) hK => ?_
      | intro hcd
      | (refine go1 ?_ ?_ <;> try clear hK K)
      | fail)
      exact hC _ _ (0 + 1) (by omega) (by omega) (Weaks.gc [0] 1 rfl (by repeat (first | exact trivial | refine ⟨.rfl, ?_⟩ | refine ⟨.any, ?_⟩)) (by first | rfl | (symm; unfold outH; simp only [List.map]; (repeat' (first | rfl | exact outB_bytes | exact outB_ints | exact outB_flat | refine consE ?_ ?_)); done)))
    · have hord := hord (by omega)
      have hm0 := hm0 (by omega)
      generalize ins[i - 1] = w at *
      generalize ins[i] = x at *
      obtain ⟨xo, xn, xm, xc⟩ := x
      obtain ⟨wo, wn, wm, wc⟩ := w
      dsimp only [inC] at hm hm0 hord v1 v2 v3 v4 v5 hsz hnx hcy hop hct
      repeat' (first
      | rw [e1]
      | rw [e2]
      | rw [e3]
      | (show WOpsT _ (⟨_, .idx _ _ _ _, none⟩ :: _) _ _ _ _; refine T.idxs rfl rfl rfl (by omega) hm ?_)
      | (show WOpsT _ (⟨_, .idx _ _ _ _, none⟩ :: _) _ _ _ _; refine T.idxs rfl rfl rfl (by omega) (by rw [e1]; exact hm0) ?_)
      | (show WOpsT _ (⟨_, .slc _ _ _ _, none⟩ :: _) _ _ _ _; refine T.slcS rfl rfl rfl rfl (by rw [List.length_map]; omega) ?_)
      | (show WOpsT _ (⟨_, .call _ _, none⟩ :: _) _ _ _ _; first | refine T.call0 e108 rfl (hnx) ?_ | refine T.call0 e184 rfl (hsz) ?_ | refine T.callQ [1] e185 rfl (hct) (by first | rfl | exact pasH_nil | (unfold pasH; simp only [List.map]; (repeat' (first | rfl | exact pasB_bytes | exact pasB_ints | exact pasB_flat | refine consE ?_ ?_)); done) | simp [pasH, pasB, cells_pas, bcells_pas]) rfl rfl rfl (by first | rfl | ((repeat' (first | rfl | exact renB_bytes | exact renB_ints | exact renB_flat | refine consE ?_ ?_)); done) | simp [renB, cells_ren, bcells_ren]) ?_ | refine T.call0 e187 rfl (hcy) ?_ | refine T.call0 e188 rfl (hop) ?_)
      | exact True.intro
      | refine fun (K : KT) hK => ?_
      | intro hcd
      | (refine go1 ?_ ?_ <;> try clear hK K)
      | fail)
      all_goals first
        | exact hC _ _ (i + 1) (by omega) (by omega) (Weaks.gc [0] 1 rfl (by repeat (first | exact trivial | refine ⟨.rfl, ?_⟩ | refine ⟨.any, ?_⟩)) (by first | rfl | (symm; unfold outH; simp only [List.map]; (repeat' (first | rfl | exact outB_bytes | exact outB_ints | exact outB_flat | refine consE ?_ ?_)); done)))
        | (exfalso; omega)
        | trace_state
  · obtain rfl : i = ins.length := by omega
    repeat' (first
    | (show AK _ _ (.loop _) _ _ _ _; refine N.unroll 4 ?_)
    | (show WOpsT _ (⟨_, .call _ _, none⟩ :: _) _ _ _ _; first | refine T.call0 e187 rfl (c1) ?_ | refine T.call0 e187 rfl (c2) ?_ | refine T.call0 e187 rfl (c3) ?_)
    | exact True.intro
    | refine fun (K : KT) hK => ?_
    | intro hcd
    | (refine go1 ?_ ?_ <;> try clear hK K)
    | fail)
    exact WS.c rfl rfl
end Go.Proofs.YtpfagchhmfigfaaGreat.Calc

namespace Go.Proofs.YtpfagchhmfigfaaGreat.Calc
open Go Code
set_option linter.unusedSimpArgs false
set_option linter.unusedVariables false
set_option maxRecDepth 20000
set_option maxHeartbeats 4000000
attribute [local irreducible] WOpsT AW AK RK AKW UK UC
def Apart (c d : Chp) : Prop := c.name ≠ d.name ∧ (c.base + c.size ≤ d.base ∨ d.base + d.size ≤ c.base)
structure VBoard (b : Brd) : Prop where
  name : VName b.name
  cpu : VCpu b.cpu
  num : b.chips.length ≤ 12
  kinds : ∀ c ∈ b.chips, VKind c
  places : ∀ c ∈ b.chips, VPlace c
  apart : ∀ i j (h : j < b.chips.length) (hij : i < j), Apart b.chips[i] b.chips[j]
  wnum : b.wires.length ≤ 40
theorem bcheck_ok (b : Brd) (hb : VBoard b) (hw : ∀ w ∈ b.wires, FnE Tryz.prog 111 [.agg (boV b), .agg (wiV w)] [] (I 0) []) (hct : ∀ i (h : i < b.wires.length), FnE Tryz.prog 112 [.sl 2 ((b.wires.take i).map wiV), .agg (wiV b.wires[i])] [] (.c (.bool false)) []) : FnE Tryz.prog 56 [.agg (boV b)] [] (I 0) [] := by
  obtain ⟨hn, hcpu, hnum, hki, hpl, hap, hwn⟩ := hb
  obtain ⟨bn, ⟨nm, ins, r1, r2, r3⟩, cs, ws⟩ := b
  dsimp only at hn hcpu hnum hki hpl hap hwn hw hct
  have hname := name_ok bn hn
  have htc := tcheck_ok _ hcpu
  have hks : ∀ c ∈ cs, 1 ≤ c.size ∧ c.size ≤ 4096 := fun c hc => by
    rcases hki c hc with ⟨z, hk, hs, h1, hd, hb⟩ | ⟨nb, hk, hs, h1, hd, hb⟩ | ⟨hk, hs, hd⟩ | ⟨nd, hk, hs, hn, hd, hb⟩
    · omega
    · omega
    · rw [hs]
      rcases hk with h | h | h | h | h <;> rw [h] <;> decide
    · omega
  unfold boV cpC at hw ⊢
  dsimp only [List.cons_append, List.nil_append] at hw ⊢
  dsimp only [cpC] at htc
  refine N.fn Tryz.func56 k56 lb q56 fun Q hQ hQN => ?_
  rw [c56]
  repeat' (first
  | rw [List.length_map]
  | rw [Bool.not_true]
  | (show WOpsT _ (⟨_, .call _ _, none⟩ :: _) _ _ _ _; first | refine T.call0 e108 rfl (hname) ?_ | refine T.call0 e109 rfl (htc) ?_)
  | exact True.intro
  | refine fun (K : KT) hK => ?_
  | intro hcd
  | (refine go1 ?_ ?_ <;> try clear hK K)
  | fail)
  all_goals first
    | (exfalso; omega)
    | skip
  refine N.loop (σ := Nat) (fun i => [(1, .ptr 0 1 0 0), (27, .sl 5 (cs.map chV)), (28, I cs.length), (29, I i)]) (fun i => [⟨1, 8, [[.c (.string bn), .c (.string nm), .sl 4 (ins.map inC), .sl 4 (r1.map cyC), .sl 4 (r2.map cyC), .sl 4 (r3.map cyC), .sl 5 (cs.map chV), .sl 2 (ws.map wiV)]]⟩]) (fun i => i ≤ cs.length) (fun i => cs.length - i) 0 (Nat.zero_le _) (Weaks.sel (by repeat (first | exact trivial | refine ⟨.rfl, ?_⟩ | refine ⟨.any, ?_⟩)) rfl) fun i hi R hC => ?_
  by_cases hil : i < cs.length
  · have hm := mget chV cs i hil
    have hck := check_v _ (hki _ (List.getElem_mem hil)) (hpl _ (List.getElem_mem hil))
    have hsz := hks _ (List.getElem_mem hil)
    have hp := hpl _ (List.getElem_mem hil)
    have hap2 := fun j hj => hap j i hil hj
    generalize hx : cs[i] = x at *
    have e2 : (List.drop (Int.toNat 0) (cs.map chV)).take ((i : Int).toNat - Int.toNat 0) = (cs.take i).map chV := by
      rw [show Int.toNat 0 = 0 from rfl, List.drop_zero, Int.toNat_natCast, Nat.sub_zero, List.map_take]
    have e3 : (cs.map chV).take i = (cs.take i).map chV := List.map_take.symm
    have e4 : (cs.take i).length = i := by rw [List.length_take]; omega
    obtain ⟨xn, xk, xb, xs, xd⟩ := x
    obtain ⟨_, _, p1, p2⟩ := hp
    dsimp only [chV] at hm hck p1 p2 hsz
    repeat' (first
    | (show WOpsT _ (⟨_, .idx _ _ _ _, none⟩ :: _) _ _ _ _; refine T.idxs rfl rfl rfl (by omega) hm ?_)
    | rw [e2]
    | rw [e3]
    | rw [List.length_map]
    | rw [e4]
    | (show WOpsT _ (⟨_, .slc _ _ _ _, none⟩ :: _) _ _ _ _; refine T.slcS rfl rfl rfl rfl (by rw [List.length_map]; omega) ?_)
    | refine T.call0 e110 rfl (hck) ?_
    | exact True.intro
    | refine fun (K : KT) hK => ?_
    | intro hcd
    | (refine go1 ?_ ?_ <;> try clear hK K)
    | fail)
    refine N.loop (σ := Nat) (fun k => [(1, .ptr 0 1 0 0), (5, .ptr 1 1 0 0), (27, .sl 5 (cs.map chV)), (28, I cs.length), (29, I i), (42, .sl 5 ((cs.take i).map chV)), (43, I i), (44, I k)]) (fun k => [⟨1, 8, [[.c (.string bn), .c (.string nm), .sl 4 (ins.map inC), .sl 4 (r1.map cyC), .sl 4 (r2.map cyC), .sl 4 (r3.map cyC), .sl 5 (cs.map chV), .sl 2 (ws.map wiV)]]⟩, ⟨1, 5, [[.c (.string xn), I xk, I xb, I xs, .sl 1 (bcells xd)]]⟩]) (fun k => k ≤ i) (fun k => i - k) 0 (Nat.zero_le _) (Weaks.sel (by repeat (first | exact trivial | refine ⟨.rfl, ?_⟩ | refine ⟨.any, ?_⟩)) rfl) fun k hk R2 hC2 => ?_
    by_cases hkl : k < i
    · have hm2 : ((cs.take i).map chV)[((k : Nat) : Int).toNat]? = some (chV cs[k]) := by
        rw [Int.toNat_natCast, List.getElem?_map, List.getElem?_take_of_lt hkl, List.getElem?_eq_getElem (by omega)]; rfl
      have ha := hap2 k hkl
      have hsz2 := hks _ (List.getElem_mem (show k < cs.length by omega))
      have hp2 := hpl _ (List.getElem_mem (show k < cs.length by omega))
      generalize cs[k] = y at *
      obtain ⟨yn, yk, yb, ys, yd⟩ := y
      obtain ⟨_, _, p3, p4⟩ := hp2
      obtain ⟨a1, a2⟩ := ha
      dsimp only [chV] at hm2 a1 a2 p3 p4 hsz2
      have hne : decide (yn = xn) = false := decide_eq_false a1
      repeat' (first
      | (show WOpsT _ (⟨_, .idx _ _ _ _, none⟩ :: _) _ _ _ _; refine T.idxs rfl rfl rfl (by omega) hm2 ?_)
      | rw [hne]
      | exact True.intro
      | refine fun (K : KT) hK => ?_
      | intro hcd
      | (refine go1 ?_ ?_ <;> try clear hK K)
      | fail)
      all_goals first
        | exact hC2 _ _ (k + 1) (by omega) (by omega) (Weaks.gc [0, 1] 1 rfl (by repeat (first | exact trivial | refine ⟨.rfl, ?_⟩ | refine ⟨.any, ?_⟩)) (by first | rfl | (symm; unfold outH; simp only [List.map]; (repeat' (first | rfl | exact outB_bytes | exact outB_ints | exact outB_flat | refine consE ?_ ?_)); done)))
        | (exfalso; omega)
        | trace_state
    · obtain rfl : k = i := by omega
      repeat' (first
      | exact True.intro
      | refine fun (K : KT) hK => ?_
      | intro hcd
      | (refine go1 ?_ ?_ <;> try clear hK K)
      | fail)
      exact hC _ _ (k + 1) (by omega) (by omega) (Weaks.gc [0] 1 rfl (by repeat (first | exact trivial | refine ⟨.rfl, ?_⟩ | refine ⟨.any, ?_⟩)) (by first | rfl | (symm; unfold outH; simp only [List.map]; (repeat' (first | rfl | exact outB_bytes | exact outB_ints | exact outB_flat | refine consE ?_ ?_)); done)))
  · obtain rfl : i = cs.length := by omega
    clear hC
    repeat' (first
    | rw [List.length_map]
    | exact True.intro
    | refine fun (K : KT) hK => ?_
    | intro hcd
    | (refine go1 ?_ ?_ <;> try clear hK K)
    | fail)
    all_goals first
      | (exfalso; omega)
      | skip
    refine N.loop (σ := Nat) (fun i => [(1, .ptr 0 1 0 0), (80, .sl 2 (ws.map wiV)), (81, I ws.length), (82, I i)]) (fun i => [⟨1, 8, [[.c (.string bn), .c (.string nm), .sl 4 (ins.map inC), .sl 4 (r1.map cyC), .sl 4 (r2.map cyC), .sl 4 (r3.map cyC), .sl 5 (cs.map chV), .sl 2 (ws.map wiV)]]⟩]) (fun i => i ≤ ws.length) (fun i => ws.length - i) 0 (Nat.zero_le _) (Weaks.sel (by repeat (first | exact trivial | refine ⟨.rfl, ?_⟩ | refine ⟨.any, ?_⟩)) rfl) fun i hi R hC => ?_
    by_cases hil : i < ws.length
    · have hm := mget wiV ws i hil
      have h1 := hw _ (List.getElem_mem hil)
      have h2 := hct i hil
      have e2 : (List.drop (Int.toNat 0) (ws.map wiV)).take ((i : Int).toNat - Int.toNat 0) = (ws.take i).map wiV := by
        rw [show Int.toNat 0 = 0 from rfl, List.drop_zero, Int.toNat_natCast, Nat.sub_zero, List.map_take]
      have e3 : (ws.map wiV).take i = (ws.take i).map wiV := List.map_take.symm
      generalize ws[i] = w at *
      obtain ⟨w1, w2⟩ := w
      dsimp only [wiV] at hm h1 h2
      repeat' (first
      | (show WOpsT _ (⟨_, .idx _ _ _ _, none⟩ :: _) _ _ _ _; refine T.idxs rfl rfl rfl (by omega) hm ?_)
      | rw [e2]
      | rw [e3]
      | (show WOpsT _ (⟨_, .slc _ _ _ _, none⟩ :: _) _ _ _ _; refine T.slcS rfl rfl rfl rfl (by rw [List.length_map]; omega) ?_)
      | (show WOpsT _ (⟨_, .call _ _, none⟩ :: _) _ _ _ _; first | refine T.call0 e111 rfl (h1) ?_ | refine T.call0 e112 rfl (h2) ?_)
      | exact True.intro
      | refine fun (K : KT) hK => ?_
      | intro hcd
      | (refine go1 ?_ ?_ <;> try clear hK K)
      | fail)
      all_goals first
        | exact hC _ _ (i + 1) (by omega) (by omega) (Weaks.gc [0] 1 rfl (by repeat (first | exact trivial | refine ⟨.rfl, ?_⟩ | refine ⟨.any, ?_⟩)) (by first | rfl | (symm; unfold outH; simp only [List.map]; (repeat' (first | rfl | exact outB_bytes | exact outB_ints | exact outB_flat | refine consE ?_ ?_)); done)))
        | (exfalso; omega)
        | trace_state
    · obtain rfl : i = ws.length := by omega
      repeat' (first
      | exact True.intro
      | refine fun (K : KT) hK => ?_
      | intro hcd
      | (refine go1 ?_ ?_ <;> try clear hK K)
      | fail)
      exact WS.c rfl rfl
def hasA (a : Int) (c : Chp) : Bool := decide (c.base ≤ a ∧ a < c.base + c.size)
def findC (cs : List Chp) (a : Int) : Option Nat := cs.findIdx? (hasA a)
def findR (cs : List Chp) (a : Int) : V := match findC cs a with
  | some i => .tup [I i, I (a - (cs.getD i ramC).base), .c (.bool true)]
  | none => .tup [I 0, I 0, .c (.bool false)]
theorem wrapU64 (n : Int) (h : 0 ≤ n ∧ n < 9223372036854775808) : IntKind.wrap .u64 n = n := by
  simp only [IntKind.wrap, IntKind.signed, IntKind.bits]
  simp
  omega
theorem subU64 (a b : Int) (h : 0 ≤ b ∧ b ≤ a ∧ a < 9223372036854775808) : binV .sub (.int .u64 a) (.int .u64 b) = some (.int .u64 (a - b)) := by
  have := wrapU64 (a - b) (by omega)
  simp only [binV, this]
  rw [if_pos trivial]
theorem find_k (b : Brd) (a : Int) (hc : ∀ c ∈ b.chips, 0 ≤ c.base ∧ c.base ≤ 65536 ∧ 1 ≤ c.size ∧ c.size ≤ 65536) (hn : b.chips.length ≤ 1000) (ha : 0 ≤ a ∧ a < 65536) : FnE Tryz.prog 76 [.agg (boV b), I a] [] (findR b.chips a) [] := by
  obtain ⟨bn, ⟨nm, ins, r1, r2, r3⟩, cs, ws⟩ := b
  dsimp only at hc hn
  unfold boV cpC
  dsimp only [List.cons_append, List.nil_append]
  generalize hF : findR cs a = F
  refine N.fn Tryz.func76 k76 lb q76 fun Q hQ hQN => ?_
  rw [c76]
  repeat' (first
  | rw [List.length_map]
  | exact True.intro
  | refine fun (K : KT) hK => ?_
  | intro hcd
  | (refine go1 ?_ ?_ <;> try clear hK K)
  | fail)
  refine N.loop (σ := Nat) (fun i => [(1, I a), (10, .sl 5 (cs.map chV)), (11, I cs.length), (12, I i)]) (fun i => []) (fun i => i ≤ cs.length ∧ ∀ j, j < i → ∀ hj : j < cs.length, hasA a cs[j] = false) (fun i => cs.length - i) 0 ⟨Nat.zero_le _, fun j hj => absurd hj (by omega)⟩ (Weaks.gc [] 1 rfl (by repeat (first | exact trivial | refine ⟨.rfl, ?_⟩ | refine ⟨.any, ?_⟩)) (by first | rfl | (symm; unfold outH; simp only [List.map]; (repeat' (first | rfl | exact outB_bytes | exact outB_ints | exact outB_flat | refine consE ?_ ?_)); done))) fun i hi R hC => ?_
  obtain ⟨hi, hpre⟩ := hi
  by_cases hil : i < cs.length
  · have hm := mget chV cs i hil
    have hx := hc _ (List.getElem_mem hil)
    have hyes : hasA a cs[i] = true → F = .tup [I i, I (a - cs[i].base), .c (.bool true)] := fun h => by
      rw [← hF]
      unfold findR findC
      rw [show cs.findIdx? (hasA a) = some i from List.findIdx?_eq_some_iff_getElem.2 ⟨hil, h, fun j hj => by rw [hpre j hj (by omega)]; decide⟩]
      simp [hil]
    have hno : hasA a cs[i] = false → ∀ j, j < i + 1 → ∀ hj : j < cs.length, hasA a cs[j] = false := fun h j hj hjl => by
      by_cases hji : j = i
      · subst hji; exact h
      · exact hpre j (by omega) hjl
    generalize cs[i] = x at *
    obtain ⟨xn, xk, xb, xs, xd⟩ := x
    dsimp only [chV, hasA] at hm hx hyes hno
    have u1 := wrapU64 a (by omega)
    have u2 := wrapU64 xb (by omega)
    have u3 := wrapU64 xs (by omega)
    repeat' (first
    | (show WOpsT _ (⟨_, .idx _ _ _ _, none⟩ :: _) _ _ _ _; refine T.idxs rfl rfl rfl (by omega) hm ?_)
    | rw [u1]
    | rw [u2]
    | rw [u3]
    | (show WOpsT _ (⟨_, .bin _ _ _, none⟩ :: _) _ _ _ _; refine T.bin rfl rfl (subU64 a xb (by omega)) ?_)
    | exact True.intro
    | refine fun (K : KT) hK => ?_
    | intro hcd
    | (refine go1 ?_ ?_ <;> try clear hK K)
    | fail)
    all_goals first
      | (exfalso; omega)
      | (rw [hyes (decide_eq_true (by omega))]; exact WS.drop (n := 0) rfl rfl)
      | exact hC _ _ (i + 1) ⟨by omega, hno (decide_eq_false (by omega))⟩ (by omega) (Weaks.gc [] 1 rfl (by repeat (first | exact trivial | refine ⟨.rfl, ?_⟩ | refine ⟨.any, ?_⟩)) (by first | rfl | (symm; unfold outH; simp only [List.map]; (repeat' (first | rfl | exact outB_bytes | exact outB_ints | exact outB_flat | refine consE ?_ ?_)); done)))
      | trace_state
  · obtain rfl : i = cs.length := by omega
    have hF : F = .tup [I 0, I 0, .c (.bool false)] := by
      rw [← hF]
      unfold findR findC
      rw [show cs.findIdx? (hasA a) = none from List.findIdx?_eq_none_iff.2 fun x hx => by obtain ⟨j, hj, rfl⟩ := List.getElem_of_mem hx; exact hpre j hj hj]
    subst hF
    repeat' (first
    | exact True.intro
    | refine fun (K : KT) hK => ?_
    | intro hcd
    | (refine go1 ?_ ?_ <;> try clear hK K)
    | fail)
    exact WS.drop (n := 0) rfl rfl
end Go.Proofs.YtpfagchhmfigfaaGreat.Calc

namespace Go.Proofs.YtpfagchhmfigfaaGreat.Calc
open Go Code
set_option linter.unusedSimpArgs false
set_option linter.unusedVariables false
set_option maxRecDepth 20000
set_option maxHeartbeats 4000000
attribute [local irreducible] WOpsT AW AK RK AKW UK UC
def maV (t : Int) (r : Nat → Int) (op a : Int) (b : Bool) (ds : List Dv) (x y z : Int) : List V := [I t, I (r 0), I (r 1), I (r 2), I (r 3), I (r 4), I (r 5), I (r 6), I (r 7), I (r 8), I op, I a, .c (.bool b), .sl 2 (ds.map dvC), I x, I y, I z]
instance : Flat dvC := ⟨fun a x hx => by simp [dvC] at hx; rcases hx with rfl | rfl <;> exact .inr ⟨_, _, rfl⟩⟩
def rstR : Nat → Int := fun i => if i = 4 then 4 else 0
noncomputable def newV (c : Chp) : Dv := open Classical in if h : VKind c then (chNew_ex c h).choose else ([], [])
theorem newV_ok (c : Chp) (h : VKind c) : DvOk c (newV c) ∧ FnE Tryz.prog 58 [.agg (chV c)] [] (.agg (dvC (newV c))) [] := by
  unfold newV; rw [dif_pos h]; exact (chNew_ex c h).choose_spec
theorem coreN_ok : FnE Tryz.prog 57 [] [] (.agg [I 0, I 0, I 0, I 0, I 4, I 0, I 0, I 0, I 0, I 258, I 0, .c (.bool false)]) [] := by
  refine N.fn Tryz.func57 k57 lb q57 fun Q hQ hQN => ?_
  rw [c57]
  repeat' (first
  | exact True.intro
  | refine fun (K : KT) hK => ?_
  | intro hcd
  | (refine go1 ?_ ?_ <;> try clear hK K)
  | fail)
  exact WS.drop (n := 0) rfl rfl
instance : Flat (fun n : Int => [I n]) := ⟨fun a x hx => by simp at hx; subst hx; exact .inl ⟨_, rfl⟩⟩
instance : Flat (fun n : Int => [V.c (.int .u8 n)]) := ⟨fun a x hx => by simp at hx; subst hx; exact .inl ⟨_, rfl⟩⟩
theorem cloneI_ok (l : List Int) (hl : l.length ≤ 100000) : FnE Tryz.prog 90 [.sl 1 (cells l)] [] (.sl 1 (cells l)) [] := by
  unfold cells
  refine N.fn Tryz.func90 k90 lb q90 fun Q hQ hQN => ?_
  rw [c90]
  cases l with
  | nil =>
    repeat' (first
    | refine T.eqnU rfl ?_
    | (show WOpsT _ (⟨_, .app _ _ _ _, none⟩ :: _) _ _ _ _; refine T.app rfl rfl rfl ⟨by decide, by decide⟩ ⟨rfl, rfl, rfl, by decide⟩ ?_)
    | exact True.intro
    | refine fun (K : KT) hK => ?_
    | intro hcd
    | (refine go1 ?_ ?_ <;> try clear hK K)
    | fail)
    all_goals first
      | exact WS.nil
      | exact WS.rows (f := fun n : Int => [I n]) (l := []) rfl (by simp)
  | cons a l =>
    repeat' (first
    | refine T.eqnS rfl (Nat.succ_pos _) ?_
    | (show WOpsT _ (⟨_, .app _ _ _ _, none⟩ :: _) _ _ _ _; refine T.app rfl rfl rfl ⟨by decide, by decide⟩ ⟨rfl, rfl, rfl, by simp at hl ⊢; omega⟩ ?_)
    | exact True.intro
    | refine fun (K : KT) hK => ?_
    | intro hcd
    | (refine go1 ?_ ?_ <;> try clear hK K)
    | fail)
    exact WS.rows (f := fun n : Int => [I n]) (l := a :: l) rfl (by simp)
theorem cloneB_ok (l : List Int) (hl : l.length ≤ 100000) : FnE Tryz.prog 43 [.sl 1 (bcells l)] [] (.sl 1 (bcells l)) [] := by
  unfold bcells
  refine N.fn Tryz.func43 k43 lb q43 fun Q hQ hQN => ?_
  rw [c43]
  cases l with
  | nil =>
    repeat' (first
    | refine T.eqnU rfl ?_
    | (show WOpsT _ (⟨_, .app _ _ _ _, none⟩ :: _) _ _ _ _; refine T.app rfl rfl rfl ⟨by decide, by decide⟩ ⟨rfl, rfl, rfl, by decide⟩ ?_)
    | exact True.intro
    | refine fun (K : KT) hK => ?_
    | intro hcd
    | (refine go1 ?_ ?_ <;> try clear hK K)
    | fail)
    all_goals first
      | exact WS.nil
      | exact WS.rows (f := fun n : Int => [V.c (.int .u8 n)]) (l := []) rfl (by simp)
  | cons a l =>
    repeat' (first
    | refine T.eqnS rfl (Nat.succ_pos _) ?_
    | (show WOpsT _ (⟨_, .app _ _ _ _, none⟩ :: _) _ _ _ _; refine T.app rfl rfl rfl ⟨by decide, by decide⟩ ⟨rfl, rfl, rfl, by simp at hl ⊢; omega⟩ ?_)
    | exact True.intro
    | refine fun (K : KT) hK => ?_
    | intro hcd
    | (refine go1 ?_ ?_ <;> try clear hK K)
    | fail)
    exact WS.rows (f := fun n : Int => [V.c (.int .u8 n)]) (l := a :: l) rfl (by simp)
theorem cloneD_ok (a : Dv) (l : List Dv) (hl : (a :: l).length ≤ 1000) : FnE Tryz.prog 89 [.sl 2 ((a :: l).map dvC)] [] (.psl 0 2 0 (a :: l).length) [⟨2, 2, (a :: l).map dvC⟩] := by
  refine N.fn Tryz.func89 k89 lb q89 fun Q hQ hQN => ?_
  rw [c89]
  have hl2 : (List.map dvC (a :: l)).length ≤ 1000 := by rw [List.length_map]; exact hl
  repeat' (first
  | refine T.eqnS rfl (Nat.succ_pos _) ?_
  | (show WOpsT _ (⟨_, .app _ _ _ _, none⟩ :: _) _ _ _ _; refine T.app rfl rfl rfl ⟨by decide, by decide⟩ ⟨rfl, rfl, rfl, by simp at hl ⊢; omega⟩ ?_)
  | exact True.intro
  | refine fun (K : KT) hK => ?_
  | intro hcd
  | (refine go1 ?_ ?_ <;> try clear hK K)
  | fail)
  exact WS.gc [0] 1 rfl (by show [(⟨2, 2, (a :: l).map dvC⟩ : Blk)] = [outB _ [0] 1 ⟨2, 2, (a :: l).map dvC⟩]; rw [outB_flat]) (by show Sub (.psl 0 2 0 ((List.map dvC l).length + 1)) _; rw [List.length_map]; exact .rfl)
theorem machNew_ok (b : Brd) (hki : ∀ c ∈ b.chips, VKind c) (hck : FnE Tryz.prog 56 [.agg (boV b)] [] (I 0) []) (h1 : 1 ≤ b.chips.length) (h2 : b.chips.length ≤ 12) : FnE Tryz.prog 21 [.agg (boV b)] [] (.tup [.agg (maV 0 rstR 258 0 false (b.chips.map newV) 0 0 0), I 0]) [] := by
  obtain ⟨bn, ⟨nm, ins, r1, r2, r3⟩, cs, ws⟩ := b
  dsimp only at hki h1 h2
  unfold boV cpC at *
  dsimp only [List.cons_append, List.nil_append] at *
  show FnE Tryz.prog 21 _ _ (.tup [.agg [I 0, I 0, I 0, I 0, I 0, I 4, I 0, I 0, I 0, I 0, I 258, I 0, .c (.bool false), .sl 2 ((cs.map newV).map dvC), I 0, I 0, I 0], I 0]) []
  obtain ⟨n, hn⟩ : ∃ n, cs.length = n + 1 := ⟨cs.length - 1, by omega⟩
  have hco := coreN_ok
  refine N.fn Tryz.func21 k21 lb q21 fun Q hQ hQN => ?_
  rw [c21]
  repeat' (first
  | rw [List.length_map]
  | rw [hn]
  | (show WOpsT _ (⟨_, .call _ _, none⟩ :: _) _ _ _ _; first | refine T.call0 e56 rfl (hck) ?_ | refine T.call0 e57 rfl (hco) ?_)
  | exact True.intro
  | refine fun (K : KT) hK => ?_
  | intro hcd
  | (refine go1 ?_ ?_ <;> try clear hK K)
  | fail)
  all_goals first
    | (exfalso; omega)
    | skip
  refine N.loop (σ := Nat) (fun i => [(2, .ptr 0 1 0 0), (5, .ptr 1 1 0 0), (17, .sl 5 (cs.map chV)), (18, I (n + 1 : Nat)), (19, I i)]) (fun i => match i with
    | 0 => [⟨1, 17, [[I 0, I 0, I 0, I 0, I 0, I 0, I 0, I 0, I 0, I 0, I 0, I 0, .c (.bool false), .c (.slice none 0 0), I 0, I 0, I 0]]⟩, ⟨1, 17, [[I 0, I 0, I 0, I 0, I 0, I 4, I 0, I 0, I 0, I 0, I 258, I 0, .c (.bool false), .c (.slice none 0 0), I 0, I 0, I 0]]⟩]
    | i + 1 => [⟨1, 17, [[I 0, I 0, I 0, I 0, I 0, I 0, I 0, I 0, I 0, I 0, I 0, I 0, .c (.bool false), .c (.slice none 0 0), I 0, I 0, I 0]]⟩, ⟨1, 17, [[I 0, I 0, I 0, I 0, I 0, I 4, I 0, I 0, I 0, I 0, I 258, I 0, .c (.bool false), .psl 2 (i + 1) 0 (i + 1), I 0, I 0, I 0]]⟩, ⟨i + 1, 2, ((cs.take (i + 1)).map newV).map dvC⟩]) (fun i => i ≤ n + 1) (fun i => n + 1 - i) 0 (Nat.zero_le _) (Weaks.gc [1, 2] 1 rfl (by repeat (first | exact trivial | refine ⟨.rfl, ?_⟩ | refine ⟨.any, ?_⟩)) (by first | rfl | (symm; unfold outH; simp only [List.map]; (repeat' (first | rfl | exact outB_bytes | exact outB_ints | exact outB_flat | refine consE ?_ ?_)); done))) fun i hi R hC => ?_
  by_cases hil : i < n + 1
  · have hm := mget chV cs i (by omega)
    have hnw := (newV_ok cs[i] (hki _ (List.getElem_mem (by omega)))).2
    have htk : ((cs.take (i + 1)).map newV).map dvC = ((cs.take i).map newV).map dvC ++ [dvC (newV cs[i])] := by
      rw [List.take_succ_eq_append_getElem (by omega), List.map_append, List.map_append]; rfl
    have hlen : ((cs.take i).map newV).length = i := by rw [List.length_map, List.length_take]; omega
    generalize newV cs[i] = d at *
    generalize cs[i] = x at *
    obtain ⟨xn, xk, xb, xs, xd⟩ := x
    obtain ⟨d1, d2⟩ := d
    dsimp only [chV, dvC] at hm hnw
    have hbs : (List.replicate 1 [V.c (.slice none 0 0), V.c (.slice none 0 0)]).set 0 [V.sl 1 (cells d1), V.sl 1 (bcells d2)] = [[V.sl 1 (cells d1), V.sl 1 (bcells d2)]] := rfl
    cases i with
    | zero =>
      have next := fun fr h => hC fr h 1 (by omega) (by omega)
      clear hC
      dsimp only [Nat.zero_add] at next htk ⊢
      rw [htk] at next
      repeat' (first
      | (show WOpsT _ (⟨_, .idx _ _ _ _, none⟩ :: _) _ _ _ _; refine T.idxs rfl rfl rfl (by omega) hm ?_)
      | rw [hbs]
      | (show WOpsT _ (⟨_, .app _ _ _ _, none⟩ :: _) _ _ _ _; refine T.appN rfl rfl ⟨by decide, by decide⟩ (by simp) (by simp) ?_)
      | refine T.call0 e58 rfl (hnw) ?_
      | exact True.intro
      | refine fun (K : KT) hK => ?_
      | intro hcd
      | (refine go1 ?_ ?_ <;> try clear hK K)
      | fail)
      all_goals exact next _ _ (Weaks.gc [0, 1, 4] 1 rfl (by repeat (first | exact trivial | refine ⟨.rfl, ?_⟩ | refine ⟨.any, ?_⟩)) (by first | rfl | (symm; unfold outH; simp only [List.map]; (repeat' (first | rfl | exact outB_bytes | exact outB_ints | exact outB_flat | refine consE ?_ ?_)); done)))
    | succ i =>
      have next := fun fr h => hC fr h (i + 1 + 1) (by omega) (by omega)
      clear hC
      dsimp only at next ⊢
      rw [htk] at next
      have hlD : (((cs.take (i + 1)).map newV).map dvC).length = i + 1 := by rw [List.length_map]; exact hlen
      generalize (cs.take (i + 1)).map newV = D at *
      have o1 : ∀ (h : List Blk) (ids : List Nat) (k v : Nat) (w : List V), outB h ids k ⟨v, 2, D.map dvC ++ [w]⟩ = ⟨v, 2, D.map dvC ++ [w.map (out h ids k)]⟩ := fun h ids k v w => by
        simp only [outB, List.map_append]; rw [flat_rows (fun _ => out_c) (fun _ _ => out_sl)]; rfl
      repeat' (first
      | (show WOpsT _ (⟨_, .idx _ _ _ _, none⟩ :: _) _ _ _ _; refine T.idxs rfl rfl rfl (by omega) hm ?_)
      | rw [hbs]
      | (show WOpsT _ (⟨_, .app _ _ _ _, none⟩ :: _) _ _ _ _; refine T.app rfl rfl rfl ⟨by decide, by decide⟩ ⟨rfl, rfl, by rw [hlD, Nat.zero_add], by simp; omega⟩ ?_)
      | (show WOpsT _ (⟨_, .st _ _ _, none⟩ :: _) _ _ _ _; refine T.st rfl rfl (vcells_psl rfl rfl) ⟨rfl, rfl⟩ rfl lb ?_)
      | refine T.call0 e58 rfl (hnw) ?_
      | exact True.intro
      | refine fun (K : KT) hK => ?_
      | intro hcd
      | (refine go1 ?_ ?_ <;> try clear hK K)
      | fail)
      all_goals exact next _ _ (Weaks.gc [0, 1, 2] 1 rfl (by repeat (first | exact trivial | refine ⟨.rfl, ?_⟩ | refine ⟨.any, ?_⟩)) (by show [_, _, _] = [_, _, outB _ _ _ ⟨i + 1 + 1, 2, D.map dvC ++ [_]⟩]; rw [o1]; rfl))
  · obtain rfl : i = n + 1 := by omega
    have htake : cs.take (n + 1) = cs := List.take_of_length_le (by omega)
    clear hC
    dsimp only
    rw [htake]
    repeat' (first
    | exact True.intro
    | refine fun (K : KT) hK => ?_
    | intro hcd
    | (refine go1 ?_ ?_ <;> try clear hK K)
    | fail)
    exact WS.gc [] 1 rfl rfl (by
      show Sub (.tup [.agg [I 0, I 0, I 0, I 0, I 0, I 4, I 0, I 0, I 0, I 0, I 258, I 0, .c (.bool false), out _ [] 1 (.psl 2 (n + 1) 0 (n + 1)), I 0, I 0, I 0], I 0]) _
      rw [out_rowsK (f := dvC) (l := cs.map newV) rfl rfl (by rw [List.length_map]; omega)]
      exact .rfl)
end Go.Proofs.YtpfagchhmfigfaaGreat.Calc

namespace Go.Proofs.YtpfagchhmfigfaaGreat.Calc
open Go Code
set_option linter.unusedSimpArgs false
set_option linter.unusedVariables false
set_option maxRecDepth 20000
set_option maxHeartbeats 4000000
attribute [local irreducible] WOpsT AW AK RK AKW UK UC
def SmlD (d : Dv) : Prop := d.1.length ≤ 100000 ∧ d.2.length ≤ 100000
def maP (t : Int) (r : Nat → Int) (op a : Int) (b : Bool) (v n : Nat) (x y z : Int) : List V := [I t, I (r 0), I (r 1), I (r 2), I (r 3), I (r 4), I (r 5), I (r 6), I (r 7), I (r 8), I op, I a, .c (.bool b), .psl 0 v 0 n, I x, I y, I z]
theorem mcopies_ok (t : Int) (r : Nat → Int) (op a : Int) (b : Bool) (ds : List Dv) (x y z : Int) (hd : ∀ d ∈ ds, SmlD d) (h1 : 1 ≤ ds.length) (h2 : ds.length ≤ 12) : FnE Tryz.prog 50 [.agg (maV t r op a b ds x y z)] [] (.agg (maP t r op a b 2 ds.length x y z)) [⟨2, 2, ds.map dvC⟩] := by
  obtain ⟨d0, l, hdl⟩ : ∃ d0 l, ds = d0 :: l := by
    cases ds with
    | nil => exact absurd h1 (by simp)
    | cons d0 l => exact ⟨d0, l, rfl⟩
  have hcl := cloneD_ok d0 l (by rw [← hdl]; omega)
  rw [← hdl] at hcl
  clear hdl
  dsimp only [maV, maP]
  refine N.fn Tryz.func50 k50 lb q50 fun Q hQ hQN => ?_
  rw [c50]
  repeat' (first
  | rw [rows_ren]
  | refine T.callN e89 rfl (hcl) (by simp) ?_
  | exact True.intro
  | refine fun (K : KT) hK => ?_
  | intro hcd
  | (refine go1 ?_ ?_ <;> try clear hK K)
  | fail)
  refine N.loop (σ := Nat) (fun i => [(1, .ptr 0 1 0 0), (2, .ptr 1 1 0 0), (10, .psl 2 2 0 ds.length), (11, I ds.length), (12, I i)]) (fun i => [⟨1, 17, [[I t, I (r 0), I (r 1), I (r 2), I (r 3), I (r 4), I (r 5), I (r 6), I (r 7), I (r 8), I op, I a, .c (.bool b), .psl 2 2 0 ds.length, I x, I y, I z]]⟩, ⟨1, 17, [[I 0, I 0, I 0, I 0, I 0, I 0, I 0, I 0, I 0, I 0, I 0, I 0, .c (.bool false), .c (.slice none 0 0), I 0, I 0, I 0]]⟩, ⟨2, 2, ds.map dvC⟩]) (fun i => i ≤ ds.length) (fun i => ds.length - i) 0 (Nat.zero_le _) (Weaks.sel (by repeat (first | exact trivial | refine ⟨.rfl, ?_⟩ | refine ⟨.any, ?_⟩)) rfl) fun i hi R hC => ?_
  by_cases hil : i < ds.length
  · have hg : (ds.map dvC)[i]? = some (dvC ds[i]) := by rw [List.getElem?_map, List.getElem?_eq_getElem hil]; rfl
    have hset : (ds.map dvC).set i (dvC ds[i]) = ds.map dvC := by
      apply List.ext_getElem?
      intro j
      rw [List.getElem?_set, List.length_map]
      by_cases hij : i = j
      · subst hij; rw [if_pos rfl, if_pos hil, hg]
      · rw [if_neg hij]
    obtain ⟨s1, s2⟩ := hd _ (List.getElem_mem hil)
    have k1 := cloneI_ok _ s1
    have k2 := cloneB_ok _ s2
    generalize ds[i] = d at *
    obtain ⟨d1, d2⟩ := d
    dsimp only [dvC] at hg hset k1 k2
    have hg : (ds.map dvC)[(i : Int).toNat]? = some [.sl 1 (cells d1), .sl 1 (bcells d2)] := by rw [Int.toNat_natCast]; exact hg
    have hset : (ds.map dvC).set (i : Int).toNat (spl [.sl 1 (cells d1), .sl 1 (bcells d2)] 0 [.sl 1 (cells d1), .sl 1 (bcells d2)]) = ds.map dvC := by rw [Int.toNat_natCast]; exact hset
    repeat' (first
    | (show WOpsT _ (⟨_, .ld _ _, none⟩ :: _) _ _ _ _; refine T.ldn rfl rfl rfl hg lb ?_)
    | (show WOpsT _ (⟨_, .st _ _ _, none⟩ :: _) _ _ _ _; refine T.st rfl rfl rfl ⟨rfl, rfl⟩ hg lb ?_)
    | (show WOpsT _ (⟨_, .call _ _, none⟩ :: _) _ _ _ _; first | refine T.call0 e90 rfl (k1) ?_ | refine T.call0 e43 rfl (k2) ?_)
    | exact True.intro
    | refine fun (K : KT) hK => ?_
    | intro hcd
    | (refine go1 ?_ ?_ <;> try clear hK K)
    | fail)
    refine hC _ _ (i + 1) (by omega) (by omega) ?_
    refine Weaks.gc [0, 1, 2] 1 rfl (by repeat (first | exact trivial | refine ⟨.rfl, ?_⟩ | refine ⟨.any, ?_⟩)) ?_
    show [_, _, _] = [_, _, outB _ _ _ ⟨2, 2, (ds.map dvC).set (i : Int).toNat (spl [.sl 1 (cells d1), .sl 1 (bcells d2)] 0 [.sl 1 (cells d1), .sl 1 (bcells d2)])⟩]
    rw [hset, outB_flat]; rfl
  · obtain rfl : i = ds.length := by omega
    repeat' (first
    | exact True.intro
    | refine fun (K : KT) hK => ?_
    | intro hcd
    | (refine go1 ?_ ?_ <;> try clear hK K)
    | fail)
    exact WS.gc [2] 1 rfl (by show [(⟨2, 2, ds.map dvC⟩ : Blk)] = [outB _ [2] 1 ⟨2, 2, ds.map dvC⟩]; rw [outB_flat]) .rfl
end Go.Proofs.YtpfagchhmfigfaaGreat.Calc

namespace Go.Proofs.YtpfagchhmfigfaaGreat.Calc
open Go Code
set_option linter.unusedSimpArgs false
set_option linter.unusedVariables false
set_option maxRecDepth 20000
set_option maxHeartbeats 4000000
attribute [local irreducible] WOpsT AW AK RK AKW UK UC
theorem same1_ok (d : Dv) (hd : SmlD d) : FnE Tryz.prog 66 [.agg (dvC d), .agg (dvC d)] [] (.c (.bool true)) [] := by
  obtain ⟨d1, d2⟩ := d
  obtain ⟨s1, s2⟩ := hd
  have h1 := eqI_ok d1 s1
  have h2 := eqB_ok d2 s2
  dsimp only [dvC]
  refine N.fn Tryz.func66 k66 lb q66 fun Q hQ hQN => ?_
  rw [c66]
  repeat' (first
  | (show WOpsT _ (⟨_, .call _ _, none⟩ :: _) _ _ _ _; first | refine T.call0 e67 rfl (h1) ?_ | refine T.call0 e68 rfl (h2) ?_)
  | exact True.intro
  | refine fun (K : KT) hK => ?_
  | intro hcd
  | (refine go1 ?_ ?_ <;> try clear hK K)
  | fail)
  all_goals first
    | exact WS.c rfl rfl
    | (exfalso; omega)
    | trace_state
theorem eqDv_ok (l : List Dv) (hl : l.length ≤ 100000) (f : Nat) (he : enters Tryz.prog f = true) (hf : ∀ x ∈ l, FnE Tryz.prog f [.agg (dvC x), .agg (dvC x)] [] (.c (.bool true)) []) : FnE Tryz.prog 65 [.sl 2 (l.map dvC), .sl 2 (l.map dvC), .fn f []] [] (.c (.bool true)) [] := by
  refine N.fn Tryz.func65 k65 lb q65 fun Q hQ hQN => ?_
  rw [c65]
  repeat' (first
  | rw [List.length_map]
  | exact True.intro
  | refine fun (K : KT) hK => ?_
  | intro hcd
  | (refine go1 ?_ ?_ <;> try clear hK K)
  | fail)
  all_goals first
    | (exfalso; omega)
    | skip
  refine N.loop (σ := Nat) (fun i => [(1, .sl 2 (l.map dvC)), (2, .fn f []), (15, .sl 2 (l.map dvC)), (16, I l.length), (17, I i)]) (fun i => []) (fun i => i ≤ l.length) (fun i => l.length - i) 0 (Nat.zero_le _) (Weaks.gc [] 1 rfl (by repeat (first | exact trivial | refine ⟨.rfl, ?_⟩ | refine ⟨.any, ?_⟩)) (by first | rfl | (symm; unfold outH; simp only [List.map]; (repeat' (first | rfl | exact outB_bytes | exact outB_ints | exact outB_flat | refine consE ?_ ?_)); done))) fun i hi R hC => ?_
  by_cases hil : i < l.length
  · have hm := mget dvC l i hil
    have hx := hf _ (List.getElem_mem hil)
    generalize l[i] = x at *
    obtain ⟨x1, x2⟩ := x
    dsimp only [dvC] at hm hx
    repeat' (first
    | (show WOpsT _ (⟨_, .idx _ _ _ _, none⟩ :: _) _ _ _ _; refine T.idxs rfl rfl rfl (by omega) hm ?_)
    | refine T.ofFn rfl (C.zero he rfl hx ?_)
    | rw [Bool.not_true]
    | exact True.intro
    | refine fun (K : KT) hK => ?_
    | intro hcd
    | (refine go1 ?_ ?_ <;> try clear hK K)
    | fail)
    all_goals first
      | exact hC _ _ (i + 1) (by omega) (by omega) (Weaks.gc [] 1 rfl (by repeat (first | exact trivial | refine ⟨.rfl, ?_⟩ | refine ⟨.any, ?_⟩)) (by first | rfl | (symm; unfold outH; simp only [List.map]; (repeat' (first | rfl | exact outB_bytes | exact outB_ints | exact outB_flat | refine consE ?_ ?_)); done)))
      | (exfalso; omega)
      | (exfalso; simp at *; done)
  · obtain rfl : i = l.length := by omega
    repeat' (first
    | exact True.intro
    | refine fun (K : KT) hK => ?_
    | intro hcd
    | (refine go1 ?_ ?_ <;> try clear hK K)
    | fail)
    exact WS.c rfl rfl
theorem msame_ok (t : Int) (r : Nat → Int) (op a : Int) (b : Bool) (ds : List Dv) (x y z : Int) (hd : ∀ d ∈ ds, SmlD d) (hl : ds.length ≤ 100000) : FnE Tryz.prog 28 [.agg (maV t r op a b ds x y z), .agg (maV t r op a b ds x y z)] [] (.c (.bool true)) [] := by
  have h := eqDv_ok ds hl 66 e66 fun d h => same1_ok d (hd d h)
  dsimp only [maV]
  refine N.fn Tryz.func28 k28 lb q28 fun Q hQ hQN => ?_
  rw [c28]
  repeat' (first
  | (show WOpsT _ (⟨_, .eqs _ _ _ _, none⟩ :: _) _ _ _ _; refine T.eqs (b := true) rfl rfl (by simp [eqLv, eqC]) ?_)
  | refine T.call0 e65 rfl (h) ?_
  | exact True.intro
  | refine fun (K : KT) hK => ?_
  | intro hcd
  | (refine go1 ?_ ?_ <;> try clear hK K)
  | fail)
  all_goals first
    | exact WS.c rfl rfl
    | (exfalso; omega)
    | trace_state
theorem peek_ok (B : Brd) (t : Int) (r : Nat → Int) (op a : Int) (b : Bool) (ds : List Dv) (x y z : Int) (ad : Int) (ha : 0 ≤ ad ∧ ad < 65536) (hcs : ∀ c ∈ B.chips, 0 ≤ c.base ∧ c.base ≤ 65536 ∧ 1 ≤ c.size ∧ c.size ≤ 65536) (hn : B.chips.length ≤ 1000) (hl : ds.length = B.chips.length) (i : Nat) (hi : i < B.chips.length) (off : Int) (hF : findR B.chips ad = .tup [I i, I off, .c (.bool true)]) (hk : 0 ≤ B.chips[i].kind ∧ B.chips[i].kind ≤ 2) (d' : Dv) (v : Int) (hr : FnE Tryz.prog 79 [.agg (chV B.chips[i]), .agg (dvC ds[i]), I off] [] (.tup [.agg (dvC d'), I v]) []) : FnE Tryz.prog 36 [.agg (boV B), .agg (maV t r op a b ds x y z), I ad] [] (I v) [] := by
  have hf := find_k B ad hcs hn ha
  rw [hF] at hf
  have hm := mget chV B.chips i hi
  have hm2 := mget dvC ds i (by omega)
  generalize B.chips[i] = c at *
  generalize ds[i] = d at *
  obtain ⟨xn, xk, xb, xs, xd⟩ := c
  obtain ⟨d1, d2⟩ := d
  obtain ⟨e1, e2⟩ := d'
  obtain ⟨bn, ⟨nm, ins, r1, r2, r3⟩, cs, ws⟩ := B
  dsimp only at hn hl hi hk
  obtain ⟨k1, k2⟩ := hk
  unfold boV cpC at *
  dsimp only [List.cons_append, List.nil_append, maV, chV, dvC] at *
  refine N.fn Tryz.func36 k36 lb q36 fun Q hQ hQN => ?_
  rw [c36]
  repeat' (first
  | rw [List.length_map]
  | rw [Bool.not_true]
  | (show WOpsT _ (⟨_, .idx _ _ _ _, none⟩ :: _) _ _ _ _; refine T.idxs rfl rfl rfl (by omega) hm ?_)
  | (show WOpsT _ (⟨_, .idx _ _ _ _, none⟩ :: _) _ _ _ _; refine T.idxs rfl rfl rfl (by omega) hm2 ?_)
  | (show WOpsT _ (⟨_, .call _ _, none⟩ :: _) _ _ _ _; first | refine T.call0 e77 rfl (low_in _ 16 16 rfl (by decide) ha) ?_ | refine T.call0 e76 rfl (hf) ?_ | refine T.call0 e79 rfl (hr) ?_)
  | exact True.intro
  | refine fun (K : KT) hK => ?_
  | intro hcd
  | (refine go1 ?_ ?_ <;> try clear hK K)
  | fail)
  all_goals first
    | exact WS.c rfl rfl
    | (exfalso; omega)
    | trace_state
theorem peekN_ok (B : Brd) (t : Int) (r : Nat → Int) (op a : Int) (b : Bool) (ds : List Dv) (x y z : Int) (ad : Int) (ha : 0 ≤ ad ∧ ad < 65536) (hcs : ∀ c ∈ B.chips, 0 ≤ c.base ∧ c.base ≤ 65536 ∧ 1 ≤ c.size ∧ c.size ≤ 65536) (hn : B.chips.length ≤ 1000) (hF : findR B.chips ad = .tup [I 0, I 0, .c (.bool false)]) : FnE Tryz.prog 36 [.agg (boV B), .agg (maV t r op a b ds x y z), I ad] [] (I 255) [] := by
  have hf := find_k B ad hcs hn ha
  rw [hF] at hf
  obtain ⟨bn, ⟨nm, ins, r1, r2, r3⟩, cs, ws⟩ := B
  dsimp only at hn
  unfold boV cpC at *
  dsimp only [List.cons_append, List.nil_append, maV] at *
  refine N.fn Tryz.func36 k36 lb q36 fun Q hQ hQN => ?_
  rw [c36]
  repeat' (first
  | rw [Bool.not_false]
  | (show WOpsT _ (⟨_, .call _ _, none⟩ :: _) _ _ _ _; first | refine T.call0 e77 rfl (low_in _ 16 16 rfl (by decide) ha) ?_ | refine T.call0 e76 rfl (hf) ?_)
  | exact True.intro
  | refine fun (K : KT) hK => ?_
  | intro hcd
  | (refine go1 ?_ ?_ <;> try clear hK K)
  | fail)
  all_goals first
    | exact WS.c rfl rfl
    | (exfalso; omega)
    | trace_state
end Go.Proofs.YtpfagchhmfigfaaGreat.Calc

namespace Go.Proofs.YtpfagchhmfigfaaGreat.Calc
open Go Code
set_option linter.unusedSimpArgs false
set_option linter.unusedVariables false
set_option maxRecDepth 20000
set_option maxHeartbeats 4000000
attribute [local irreducible] WOpsT AW AK RK AKW UK UC
theorem poke_ok (B : Brd) (t : Int) (r : Nat → Int) (op a : Int) (b : Bool) (ds : List Dv) (x y z : Int) (ad v : Int) (ha : 0 ≤ ad ∧ ad < 65536) (hcs : ∀ c ∈ B.chips, 0 ≤ c.base ∧ c.base ≤ 65536 ∧ 1 ≤ c.size ∧ c.size ≤ 65536) (hn : B.chips.length ≤ 12) (hl : ds.length = B.chips.length) (hs : ∀ d ∈ ds, SmlD d) (i : Nat) (hi : i < B.chips.length) (off : Int) (hF : findR B.chips ad = .tup [I i, I off, .c (.bool true)]) (hk : 0 ≤ B.chips[i].kind ∧ B.chips[i].kind ≤ 2) (d' : Dv) (hr : FnE Tryz.prog 78 [.agg (chV B.chips[i]), .agg (dvC ds[i]), I off, I v] [] (.agg (dvC d')) []) : FnE Tryz.prog 34 [.agg (boV B), .agg (maV t r op a b ds x y z), I ad, I v] [] (.agg (maV t r op a b (ds.set i d') x y z)) [] := by
  have hf := find_k B ad hcs (by omega) ha
  rw [hF] at hf
  have hcp := mcopies_ok t r op a b ds x y z hs (by omega) (by omega)
  have hm := mget chV B.chips i hi
  have hil : i < ds.length := by omega
  have hm2 : (ds.map dvC)[(i : Int).toNat]? = some (dvC ds[i]) := by rw [Int.toNat_natCast, List.getElem?_map, List.getElem?_eq_getElem hil]; rfl
  have hset : (ds.map dvC).set (i : Int).toNat (dvC d') = (ds.set i d').map dvC := by rw [Int.toNat_natCast, List.map_set]
  generalize B.chips[i] = c at *
  generalize ds[i] = d at *
  obtain ⟨xn, xk, xb, xs, xd⟩ := c
  obtain ⟨d1, d2⟩ := d
  have hlen : (ds.set i d').length = ds.length := List.length_set
  generalize ds.set i d' = ds2 at *
  obtain ⟨e1, e2⟩ := d'
  obtain ⟨bn, ⟨nm, ins, r1, r2, r3⟩, cs, ws⟩ := B
  dsimp only at hn hl hi hk
  obtain ⟨k1, k2⟩ := hk
  unfold boV cpC at *
  dsimp only [List.cons_append, List.nil_append, maV, maP, chV, dvC] at hm hm2 hf hcp hr ⊢
  have hset : (ds.map dvC).set (i : Int).toNat (spl [.sl 1 (cells d1), .sl 1 (bcells d2)] 0 [.sl 1 (cells e1), .sl 1 (bcells e2)]) = ds2.map dvC := hset
  have e1 : spl [I t, I (r 0), I (r 1), I (r 2), I (r 3), I (r 4), I (r 5), I (r 6), I (r 7), I (r 8), I op, I a, .c (.bool b), .sl 2 (ds.map dvC), I x, I y, I z] 0 [I t, I (r 0), I (r 1), I (r 2), I (r 3), I (r 4), I (r 5), I (r 6), I (r 7), I (r 8), I op, I a, .c (.bool b), .psl 3 2 0 ds.length, I x, I y, I z] = [I t, I (r 0), I (r 1), I (r 2), I (r 3), I (r 4), I (r 5), I (r 6), I (r 7), I (r 8), I op, I a, .c (.bool b), .psl 3 2 0 ds.length, I x, I y, I z] := rfl
  have e2 : List.take 17 [I t, I (r 0), I (r 1), I (r 2), I (r 3), I (r 4), I (r 5), I (r 6), I (r 7), I (r 8), I op, I a, .c (.bool b), .psl 3 2 0 ds.length, I x, I y, I z] = [I t, I (r 0), I (r 1), I (r 2), I (r 3), I (r 4), I (r 5), I (r 6), I (r 7), I (r 8), I op, I a, .c (.bool b), .psl 3 2 0 ds.length, I x, I y, I z] := rfl
  have e3 : spl [I 0, I 0, I 0, I 0, I 0, I 0, I 0, I 0, I 0, I 0, I 0, I 0, .c (.bool false), .c (.slice none 0 0), I 0, I 0, I 0] 0 [I t, I (r 0), I (r 1), I (r 2), I (r 3), I (r 4), I (r 5), I (r 6), I (r 7), I (r 8), I op, I a, .c (.bool b), .psl 3 2 0 ds.length, I x, I y, I z] = [I t, I (r 0), I (r 1), I (r 2), I (r 3), I (r 4), I (r 5), I (r 6), I (r 7), I (r 8), I op, I a, .c (.bool b), .psl 3 2 0 ds.length, I x, I y, I z] := rfl
  refine N.fn Tryz.func34 k34 lb q34 fun Q hQ hQN => ?_
  rw [c34]
  repeat' (first
  | rw [e1]
  | rw [e2]
  | rw [e3]
  | rw [rows_ren]
  | rw [List.length_map]
  | (show WOpsT _ (⟨_, .idx _ _ _ _, none⟩ :: _) _ _ _ _; refine T.idxs rfl rfl rfl (by omega) hm ?_)
  | (show WOpsT _ (⟨_, .ld _ _, none⟩ :: _) _ _ _ _; refine T.ldn rfl rfl rfl hm2 lb ?_)
  | (show WOpsT _ (⟨_, .st _ _ _, none⟩ :: _) _ _ _ _; refine T.st rfl rfl rfl ⟨rfl, rfl⟩ hm2 lb ?_)
  | (show WOpsT _ (⟨_, .call _ _, none⟩ :: _) _ _ _ _; first | refine T.callN e50 rfl (hcp) (by simp) ?_ | refine T.call0 e77 rfl (low_in _ 16 16 rfl (by decide) ha) ?_ | refine T.call0 e76 rfl (hf) ?_ | refine T.call0 e78 rfl (hr) ?_)
  | exact True.intro
  | refine fun (K : KT) hK => ?_
  | intro hcd
  | (refine go1 ?_ ?_ <;> try clear hK K)
  | fail)
  exact WS.gc [] 1 rfl rfl (by
    show Sub (.agg [I t, I (r 0), I (r 1), I (r 2), I (r 3), I (r 4), I (r 5), I (r 6), I (r 7), I (r 8), I op, I a, .c (.bool b), out _ [] 1 (.psl 3 2 0 ds.length), I x, I y, I z]) _
    rw [out_rowsK (f := dvC) (l := ds2) rfl (by rw [← hset]; rfl) (by omega)]
    exact .rfl)
end Go.Proofs.YtpfagchhmfigfaaGreat.Calc

namespace Go.Proofs.YtpfagchhmfigfaaGreat.Calc
open Go
set_option linter.unusedVariables false
set_option linter.unusedSimpArgs false
def vnmB (s : ByteArray) : Bool := decide (1 ≤ s.size) && decide (s.size ≤ 20) && (match s[0]? with
  | some b => decide (97 ≤ b.toNat) && decide (b.toNat ≤ 122)
  | none => false) && (nmB s).all fun b => decide ((97 ≤ b ∧ b ≤ 122) ∨ (48 ≤ b ∧ b ≤ 57) ∨ b = 45)
theorem vnm_of (s : ByteArray) (h : vnmB s = true) : VName s := by
  unfold vnmB at h
  rw [Bool.and_eq_true, Bool.and_eq_true, Bool.and_eq_true] at h
  obtain ⟨⟨⟨h1, h2⟩, h3⟩, h4⟩ := h
  refine ⟨⟨of_decide_eq_true h1, of_decide_eq_true h2⟩, ?_, fun x hx => by have h5 := List.all_eq_true.1 h4 x hx; unfold okCh; exact of_decide_eq_true h5⟩
  cases hs : s[0]? with
  | none => rw [hs] at h3; cases h3
  | some b =>
    rw [hs] at h3
    dsimp only at h3
    rw [Bool.and_eq_true] at h3
    have a := of_decide_eq_true h3.1
    have b' := of_decide_eq_true h3.2
    exact ⟨b, rfl, by omega, by omega⟩
theorem chipN_v : ∀ j : Nat, j < 5 → vnmB (chipN j) = true ∧ chipN j ≠ ⟨#[99, 112, 117]⟩ ∧ chipN j ≠ ⟨#[114, 97, 109]⟩ ∧ chipN j ≠ ⟨#[114, 111, 109]⟩ := by decide +kernel
theorem chipN_inj : ∀ j : Nat, j < 5 → ∀ k : Nat, k < j → chipN k ≠ chipN j := by decide +kernel
structure BdInv (i : Nat) (a : Int) (cs : List Chp) : Prop where
  len : cs.length = i + 1
  lo : ∀ c ∈ cs, 0 ≤ c.base ∧ 0 ≤ c.size ∧ c.base + c.size ≤ a
  order : ∀ j k (h : k < cs.length) (hjk : j < k), cs[j].base + cs[j].size ≤ cs[k].base
  names : ∀ j (h : j < cs.length), cs[j].name = if j = 0 then ⟨#[114, 97, 109]⟩ else chipN (j - 1)
theorem goBd_place : ∀ (n i : Nat) (a : Int) (cs : List Chp) (ws : List Wir) (l : List Int), i + n ≤ 4 → 57344 ≤ a ∧ a ≤ 57344 + 48 * i → BdInv i a cs → ∃ a' : Int, a' ≤ 57344 + 48 * (i + n : Nat) ∧ BdInv (i + n) a' (goBd n i a cs ws l).1 := by
  intro n
  induction n with
  | zero => intro i a cs ws l _ ha h; exact ⟨a, by rw [Nat.add_zero]; exact ha.2, h⟩
  | succ n ih =>
    intro i a cs ws l hn ha h
    have hz := szN_r (kdN (sval l 8).toNat)
    unfold goBd
    generalize kdN (sval l 8).toNat = k at *
    have hc : (stepBd k i a (srest l 8)).1.name = chipN i ∧ (stepBd k i a (srest l 8)).1.base = a ∧ (stepBd k i a (srest l 8)).1.size = szN k := ⟨rfl, rfl, rfl⟩
    generalize (stepBd k i a (srest l 8)).1 = c at *
    obtain ⟨c1, c2, c3⟩ := hc
    have hlast : ∀ (h : cs.length < (cs ++ [c]).length), (cs ++ [c])[cs.length] = c := fun h => by simp
    obtain ⟨a', h1, h2⟩ := ih (i + 1) (a + ((szN k : Int) + 15) / 16 * 16) (cs ++ [c]) (ws ++ (stepBd k i a (srest l 8)).2.1) (stepBd k i a (srest l 8)).2.2 (by omega) (by omega) (by
      refine ⟨by rw [List.length_append, h.len]; rfl, ?_, ?_, ?_⟩
      · intro x hx
        rcases List.mem_append.1 hx with hx | hx
        · have := h.lo x hx; omega
        · simp only [List.mem_singleton] at hx; subst hx; omega
      · intro j q hq hjq
        by_cases hq2 : q < cs.length
        · rw [List.getElem_append_left hq2, List.getElem_append_left (by omega)]; exact h.order j q hq2 hjq
        · have : q = cs.length := by rw [List.length_append] at hq; simp at hq; omega
          subst this
          rw [hlast hq, List.getElem_append_left hjq, c2]
          have := h.lo cs[j] (List.getElem_mem _)
          omega
      · intro j hj
        by_cases hj2 : j < cs.length
        · rw [List.getElem_append_left hj2]; exact h.names j hj2
        · have : j = cs.length := by rw [List.length_append] at hj; simp at hj; omega
          subst this
          rw [hlast hj, c1, h.len, if_neg (by omega)]
          rfl)
    exact ⟨a', by rw [show i + (n + 1) = i + 1 + n by omega]; exact h1, by rw [show i + (n + 1) = i + 1 + n by omega]; exact h2⟩
theorem mkBrd_places (l : List Int) : (∀ c ∈ (mkBrd l).chips, VPlace c) ∧ ∀ i j (h : j < (mkBrd l).chips.length) (hij : i < j), Apart (mkBrd l).chips[i] (mkBrd l).chips[j] ∧ (mkBrd l).chips[i].base + (mkBrd l).chips[i].size ≤ (mkBrd l).chips[j].base := by
  have r := sval_range l 5 (by decide)
  obtain ⟨a', h1, h2⟩ := goBd_place (sval l 5).toNat 0 57344 [ramC] [] (srest l 5) (by omega) (by decide) ⟨rfl, by
    intro c hc; simp only [List.mem_singleton] at hc; subst hc; decide, fun j k h hjk => absurd h (by simp; omega), fun j h => by
      have : j = 0 := by simp at h; omega
      subst this; rfl⟩
  rw [Nat.zero_add] at h1 h2
  have hcs : (mkBrd l).chips = (goBd (sval l 5).toNat 0 57344 [ramC] [] (srest l 5)).1 ++ [romC (bdOf l).2.2] := rfl
  refine (fun (key : ∀ cs2, cs2 = (goBd (sval l 5).toNat 0 57344 [ramC] [] (srest l 5)).1 ++ [romC (bdOf l).2.2] → (∀ c ∈ cs2, VPlace c) ∧ ∀ i j (h : j < cs2.length) (hij : i < j), Apart cs2[i] cs2[j] ∧ cs2[i].base + cs2[i].size ≤ cs2[j].base) => key _ hcs) ?_
  intro cs2 hcs2
  clear hcs
  subst hcs2
  generalize (goBd (sval l 5).toNat 0 57344 [ramC] [] (srest l 5)).1 = cs at *
  generalize hrc : romC (bdOf l).2.2 = rc
  have hr : rc.name = ⟨#[114, 111, 109]⟩ ∧ rc.base = 65280 ∧ rc.size = 256 := by rw [← hrc]; exact ⟨rfl, rfl, rfl⟩
  obtain ⟨r1, r2, r3⟩ := hr
  have hnm : ∀ j (hj : j < cs.length), vnmB cs[j].name = true ∧ cs[j].name ≠ ⟨#[99, 112, 117]⟩ ∧ cs[j].name ≠ ⟨#[114, 111, 109]⟩ := fun j hj => by
    have hl := h2.len
    rw [h2.names j hj]
    by_cases h0 : j = 0
    · rw [if_pos h0]; exact ⟨by decide +kernel, by decide, by decide⟩
    · rw [if_neg h0]
      obtain ⟨q1, q2, q3, q4⟩ := chipN_v (j - 1) (by omega)
      exact ⟨q1, q2, q4⟩
  have hlast : ∀ (h : cs.length < (cs ++ [rc]).length), (cs ++ [rc])[cs.length] = rc := fun h => by simp
  constructor
  · intro c hc
    rcases List.mem_append.1 hc with hc | hc
    · obtain ⟨j, hj, rfl⟩ := List.getElem_of_mem hc
      obtain ⟨q1, q2, q3⟩ := hnm j hj
      have := h2.lo _ hc
      exact ⟨vnm_of _ q1, q2, this.1, by omega⟩
    · simp only [List.mem_singleton] at hc; subst hc
      exact ⟨by rw [r1]; exact vnm_of _ (by decide +kernel), by rw [r1]; decide, by omega, by omega⟩
  · intro i j hj hij
    by_cases hj2 : j < cs.length
    · rw [List.getElem_append_left hj2, List.getElem_append_left (by omega)]
      have ho := h2.order i j hj2 hij
      refine ⟨⟨?_, .inl ho⟩, ho⟩
      rw [h2.names i (by omega), h2.names j hj2, if_neg (show ¬ j = 0 by omega)]
      have hl := h2.len
      by_cases h0 : i = 0
      · rw [if_pos h0]
        exact fun h => (chipN_v (j - 1) (by omega)).2.2.1 h.symm
      · rw [if_neg h0]
        exact chipN_inj (j - 1) (by omega) (i - 1) (by omega)
    · have : j = cs.length := by rw [List.length_append] at hj; simp at hj; omega
      subst this
      rw [hlast hj, List.getElem_append_left hij]
      have hlo := h2.lo cs[i] (List.getElem_mem _)
      have ho : cs[i].base + cs[i].size ≤ rc.base := by omega
      refine ⟨⟨?_, .inl ho⟩, ho⟩
      rw [r1]; exact (hnm i hij).2.2
structure Rg where
  fr : Int
  to : Int
  ch : Int
def rgV (r : Rg) : List V := [I r.fr, I r.to, I r.ch]
instance : Flat rgV := ⟨fun a x hx => by simp [rgV] at hx; rcases hx with rfl | rfl | rfl <;> exact .inl ⟨_, rfl⟩⟩
def ixA (cs : List Chp) (a : Int) : Int := match findC cs a with
  | some i => (i : Int)
  | none => -1
def stepR (l : List Rg) (n : Nat) (x : Int) : List Rg := match l.getLast? with
  | some r => if r.ch = x then l.dropLast ++ [⟨r.fr, (n : Int) + 1, r.ch⟩] else l ++ [⟨n, (n : Int) + 1, x⟩]
  | none => l ++ [⟨n, (n : Int) + 1, x⟩]
def mapR (cs : List Chp) : Nat → List Rg
  | 0 => []
  | n + 1 => stepR (mapR cs n) n (ixA cs n)
def sumR (l : List Rg) (k : Int) : Int := (l.map fun r => if r.ch = k then r.to - r.fr else 0).foldr (· + ·) 0
structure RInv (cs : List Chp) (n : Nat) (l : List Rg) : Prop where
  rg : ∀ r ∈ l, 0 ≤ r.fr ∧ r.fr < r.to ∧ r.to ≤ n ∧ (-1 ≤ r.ch ∧ r.ch < cs.length) ∧ ∀ a, r.fr ≤ a → a < r.to → ixA cs a = r.ch
  all : ∀ a, 0 ≤ a → a < (n : Int) → ∃ r ∈ l, r.fr ≤ a ∧ a < r.to
  last : ∀ r, l.getLast? = some r → r.to = n
  len : l.length ≤ n
end Go.Proofs.YtpfagchhmfigfaaGreat.Calc

