/- Several texts in one (FnMachL, FnLawMParts), for the proof of LawMachParts. No condition beyond those in each lemma. -/
import Derived.Test.YtpfagchhmfigfaaGreatPLawMachPartsQ
namespace Go.Proofs.YtpfagchhmfigfaaGreat.Calc
open Go Code
set_option linter.unusedSimpArgs false
set_option linter.unusedVariables false
set_option maxRecDepth 20000
set_option maxHeartbeats 8000000
attribute [local irreducible] WOpsT AW AK RK AKW UK UC
theorem FnE.drop {P : Program} {f : FuncId} {args : List V} {h' : List Blk} {r : V} (n : Nat) (hF : FnE P f args [] r h') : FnE P f args [] (out h' [] n r) [] := by
 intro X w ι vs H hsz hargs
 refine (hF X w ι vs H hsz hargs).mono ?_
 rintro e w' ⟨v, ι', rfl, H', hr, hFr, hR⟩
 obtain ⟨ι2, he, H2, hrel, hown⟩ := reindex H' [] (by simp) (by simp) n
 have hι : ι = [] := List.eq_nil_of_length_eq_zero H.len
 subst hι
 exact ⟨v, ι2, rfl, H2, hrel _ _ hr, ⟨hFr.size, hFr.same, fun r hr => hFr.own r (hown r hr), hFr.os, hFr.tape, hFr.output⟩, Refs.nil _⟩
theorem stdM_sml' : SmlP stdM := by
 unfold SmlP SmlC
 decide +kernel
theorem mkMac_ok (l : List Int) : MacOk (mkBrd l) := by
 obtain ⟨hv, hn2, hn6⟩ := mkBrd_kinds l
 obtain ⟨hpl, _⟩ := mkBrd_places l
 have hb := mkBrd_v l
 refine ⟨by omega, by omega, ?_, ?_, ?_, stdM_sml'⟩
 ·have := hb.wnum; omega
 ·intro c hc
  have := (hb.places c hc).name.1
  omega
 ·intro c hc
  have h1 := (hv c hc).size
  have h2 := (hpl c hc).lo
  have h3 := (hpl c hc).hi
  omega
noncomputable def mac0 (l : List Int) : Mac := ⟨0, ⟨rstR, 258, 0, false⟩, (mkBrd l).chips.map newV, ⟨0, 0, 0⟩⟩
theorem mac0_st (l : List Int) : MacSt (mkBrd l) (mac0 l) := by
 obtain ⟨hv, hn2, hn6⟩ := mkBrd_kinds l
 refine ⟨⟨List.length_map .., fun i h1 h2 => ?_⟩, Int.le_refl _, by show (0 : Int) ≤ 1099511627776; decide⟩
 simp only [mac0, List.getElem_map]
 exact (newV_ok _ (hv _ (List.getElem_mem h1))).1
theorem mac0_new (l : List Int) : FnE Tryz.prog 21 [.agg (boV (mkBrd l))] [] (.tup [.agg (maS (mac0 l)), I 0]) [] := mkNew_ok l
theorem maS_out (s : Mac) (n : Nat) (o x : V) (ho : ∀ h, out h [] 1 o = o) (hx : ∀ h, out h [] 1 x = x) : out [⟨2, 2, s.ds.map dvC⟩] [] 1 (.tup [.agg (maB s 0 2), o, x]) = .tup [.agg (maS s), o, x] := by
 show V.tup [.agg (mrow _ _ _ _ _ (out _ [] 1 (.psl 0 2 0 s.ds.length)) _ _ _), out _ [] 1 o, out _ [] 1 x] = _
 rw [out_rowsK (f := dvC) rfl rfl (Nat.le_refl _), ho, hx]; rfl
theorem run_ok (l : List Int) (s : Mac) (ins : List Ev) (n : Nat) (hn : n ≤ 100000) (h : MacSt (mkBrd l) s) (hi : InsOk (mkBrd l) ins) : FnE Tryz.prog 27 [.agg (boV (mkBrd l)), .agg (maS s), .sl 3 (ins.map evV), I n] [] (.tup [.agg (maS (runS (mkBrd l) ins s n)), .sl 3 ((runO (mkBrd l) ins s n).map evV), I 0]) [] := by
 have := FnE.drop 1 (runz_ok (mkBrd l) (mkMac_ok l) s ins n hn (by have := hi.len; omega) h (check_ok _ (mkMac_ok l) s ins h hi (mkcheck_ok l)))
 rw [maS_out _ 1 _ _ (fun _ => rfl) (fun _ => rfl)] at this
 exact this
theorem msameS (l : List Int) (s : Mac) (h : MacSt (mkBrd l) s) : FnE Tryz.prog 28 [.agg (maS s), .agg (maS s)] [] (.c (.bool true)) [] :=
 msame_ok _ _ _ _ _ _ _ _ _ h.1.sml (by rw [h.1.1]; have := (mkMac_ok l).n12; omega)
theorem boV_zero (B : Brd) : spl [V.c (.string ⟨#[]⟩), .c (.string ⟨#[]⟩), .c (.slice none 0 0), .c (.slice none 0 0), .c (.slice none 0 0), .c (.slice none 0 0), .c (.slice none 0 0), .c (.slice none 0 0)] 0 (boV B) = boV B := rfl
theorem boV_ren (B : Brd) (ks : List Nat) : (boV B).map (ren ks) = boV B := rfl
theorem maS_zero (s : Mac) : spl [I 0, I 0, I 0, I 0, I 0, I 0, I 0, I 0, I 0, I 0, I 0, I 0, .c (.bool false), .c (.slice none 0 0), I 0, I 0, I 0] 0 (maS s) = maS s := rfl
theorem maS_ren (s : Mac) (ks : List Nat) : (maS s).map (ren ks) = maS s := rfl
theorem maS_t17 (s : Mac) : (maS s).take 17 = maS s := rfl
theorem runS_t (B : Brd) (ins : List Ev) (s : Mac) (h : 0 ≤ s.t) : ∀ n : Nat, s.t + n ≤ 1099511627776 → (runS B ins s n).t = s.t + n := by
 intro n
 induction n with
 | zero => intro _; exact (Int.add_zero _).symm
 | succ n ih =>
  intro hn
  show tNext (runS B ins s n).t = _
  rw [ih (by omega)]
  unfold tNext
  omega
theorem mparts_go (l inn : List Int) (a0 z0 : Int) (a z : Nat) (ha : a0 % 250 = a) (hz : z0 % 250 = z) (B : Brd) (s0 s1 s2 : Mac) (ins o1 o2 : List Ev) (hm : FnE Tryz.prog 35 [] [] (.c (.bool true)) []) (hbd : FnE Tryz.prog 20 [.sl 1 (cells l)] [] (.agg (boV B)) []) (hin : FnE Tryz.prog 39 [.agg (boV B), .sl 1 (cells inn)] [] (.sl 3 (ins.map evV)) []) (hnew : FnE Tryz.prog 21 [.agg (boV B)] [] (.tup [.agg (maS s0), I 0]) [])
  (hr1 : FnE Tryz.prog 27 [.agg (boV B), .agg (maS s0), .sl 3 (ins.map evV), I a] [] (.tup [.agg (maS s1), .sl 3 (o1.map evV), I 0]) [])
  (hr2 : FnE Tryz.prog 27 [.agg (boV B), .agg (maS s1), .sl 3 (ins.map evV), I z] [] (.tup [.agg (maS s2), .sl 3 (o2.map evV), I 0]) [])
  (hr3 : FnE Tryz.prog 27 [.agg (boV B), .agg (maS s0), .sl 3 (ins.map evV), I (a + z)] [] (.tup [.agg (maS s2), .sl 3 ((o1 ++ o2).map evV), I 0]) [])
  (hsm : FnE Tryz.prog 28 [.agg (maS s2), .agg (maS s2)] [] (.c (.bool true)) []) (h1 : o1.length ≤ 3000) (h2 : o2.length ≤ 3000) (ht : s2.t = a + z) : FnE Tryz.prog 11 [.sl 1 (cells l), .sl 1 (cells inn), I a0, I z0] [] (.c (.bool true)) [] := by
 have b1 := below_ok a0 250 (by decide) (by decide)
 have b2 := below_ok z0 250 (by decide) (by decide)
 rw [ha] at b1
 rw [hz] at b2
 have hcc := concatE_ok o1 o2 (by omega) (by omega)
 have heq := eqE_ok (o1 ++ o2) (by rw [List.length_append]; omega)
 have hra : (a : Int) < 250 := by omega
 have hrz : (z : Int) < 250 := by omega
 refine N.fnC Tryz.func11 k11 fun Q hQ hQN => ?_
 repeat' (first | rw [boV_zero] | rw [boV_t8] | rw [boV_ren] | rw [maS_zero] | rw [maS_ren] | rw [maS_t17] | (show WC _ _ _ _ _ _ _ _ _; first | refine T.call0 e20 rfl hbd ?_ | refine T.call0 e39 rfl hin ?_ | refine T.call0 e21 rfl hnew ?_ | refine T.call0 e17 rfl b1 ?_ | refine T.call0 e17 rfl b2 ?_ | refine T.call0 e27 rfl hr1 ?_ | refine T.call0 e27 rfl hr2 ?_ | refine T.call0 e27 rfl hr3 ?_ | refine T.call0 e35 rfl hm ?_ | refine T.call0 e28 rfl hsm ?_ | refine T.callQ [5] e33 rfl (hcc) (by exact pA) rfl rfl rfl (by exact rN) ?_ | refine T.call0 e32 rfl heq ?_) | exact ⟨⟩ | intro (K : KT) hK | intro hcd | (refine go1 ?_ ?_ <;> try clear hK K) | fail)
 rw [decide_eq_true ht]
 exact WS.c rfl rfl
theorem runO_le (l : List Int) (ins : List Ev) (s : Mac) (n k : Nat) (h : n ≤ k) : (runO (mkBrd l) ins s n).length ≤ 6 * k := by
 have h1 := runO_len (mkBrd l) ins s n
 have h2 := (mkBrd_kinds l).2.2
 exact Nat.le_trans h1 (Nat.mul_le_mul h2 h)
theorem mparts_ok (l inn : List Int) (a0 z0 : Int) : FnE Tryz.prog 11 [.sl 1 (cells l), .sl 1 (cells inn), I a0, I z0] [] (.c (.bool true)) [] := by
 obtain ⟨a, ha⟩ : ∃ n : Nat, a0 % 250 = n := ⟨(a0 % 250).toNat, by omega⟩
 obtain ⟨z, hz⟩ : ∃ n : Nat, z0 % 250 = n := ⟨(z0 % 250).toNat, by omega⟩
 have hB := mkMac_ok l
 have h0 := mac0_st l
 have hio := inpM_ok (mkBrd l) inn
 have h1 := runS_st (mkBrd l) (inpM (mkBrd l) inn) (mac0 l) h0 a
 have h2 := runS_st (mkBrd l) (inpM (mkBrd l) inn) _ h1 z
 have hr3 := run_ok l (mac0 l) (inpM (mkBrd l) inn) (a + z) (by omega) h0 hio
 rw [runS_add, runO_add] at hr3
 refine mparts_go l inn a0 z0 a z ha hz (mkBrd l) (mac0 l) _ _ _ _ _ machines_ok (mkBrd_ok l) (inputs_ok _ hB inn) (mac0_new l) (run_ok l _ _ a (by omega) h0 hio) (run_ok l _ _ z (by omega) h1 hio) hr3 (msameS l _ h2) ?_ ?_ ?_
 ·have := runO_le l (inpM (mkBrd l) inn) (mac0 l) a 250 (by omega); omega
 ·have := runO_le l (inpM (mkBrd l) inn) (runS (mkBrd l) (inpM (mkBrd l) inn) (mac0 l) a) z 250 (by omega); omega
 ·have e1 : (mac0 l).t = 0 := rfl
  rw [← runS_add, runS_t _ _ _ (by rw [e1]; decide) _ (by rw [e1]; omega), e1]
  omega
end Go.Proofs.YtpfagchhmfigfaaGreat.Calc
