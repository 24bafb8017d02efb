/- DriveWrites returns true. No condition. -/
import Derived.Test.YtjmmompbmjhkpaaFnDriveF
namespace Go.Proofs.Ytjmmompbmjhkpaa.Calc
open Go Code
set_option linter.unusedSimpArgs false
set_option linter.unusedVariables false
set_option maxRecDepth 20000
set_option maxHeartbeats 8000000
attribute [local irreducible] WOpsT AW AK RK AKW UK UC
theorem getD_el {l : List Int} {j : Nat} (h : j < l.length) : l.getD j 0 = l[j] := by rw [List.getD_eq_getElem?_getD, List.getElem?_eq_getElem h]; rfl
/-- A memory behind some bytes of a sector. -/
def wrote (m x : List Int) (p i : Nat) : List Int := (List.range m.length).map fun j => if p ≤ j ∧ j < p + i then x.getD (j - p) 0 else m.getD j 0
theorem wrote_len (m x : List Int) (p i : Nat) : (wrote m x p i).length = m.length := by simp [wrote]
theorem wrote_get (m x : List Int) (p i j : Nat) (hj : j < m.length) : (wrote m x p i).getD j 0 = if p ≤ j ∧ j < p + i then x.getD (j - p) 0 else m.getD j 0 := by
  unfold wrote
  rw [List.getD_eq_getElem?_getD, List.getElem?_map, List.getElem?_range hj]; rfl
theorem wrote_zero (m x : List Int) (p : Nat) : wrote m x p 0 = m := by
  apply List.ext_getElem
  · rw [wrote_len]
  · intro j h1 h2
    have := wrote_get m x p 0 j h2
    rw [if_neg (by omega), getD_el h1, getD_el h2] at this
    exact this
theorem wrote_set (m x : List Int) (p i : Nat) (h : p + i < m.length) : (wrote m x p i).set (p + i) (x.getD i 0) = wrote m x p (i + 1) := by
  apply List.ext_getElem
  · rw [List.length_set, wrote_len, wrote_len]
  · intro j h1 h2
    have hj : j < m.length := by rw [wrote_len] at h2; exact h2
    have e1 := getD_set (wrote m x p i) (p + i) j (x.getD i 0)
    rw [getD_el h1, wrote_get m x p i j hj] at e1
    have e2 := wrote_get m x p (i + 1) j hj
    rw [getD_el h2] at e2
    rw [e1, e2]
    by_cases hpj : p + i = j
    · subst hpj
      rw [if_pos ⟨rfl, by rw [wrote_len]; exact h⟩, if_pos (by omega), Nat.add_sub_cancel_left]
    · rw [if_neg (fun h => hpj h.1)]
      by_cases hc : p ≤ j ∧ j < p + i
      · rw [if_pos hc, if_pos (by omega)]
      · rw [if_neg hc, if_neg (by omega)]
theorem wrote_bytes (m x : List Int) (p i : Nat) (hm : Bytes m) (hx : Bytes x) : Bytes (wrote m x p i) := by
  intro j
  by_cases hj : j < m.length
  · rw [wrote_get m x p i j hj]
    split
    · exact hx _
    · exact hm _
  · rw [List.getD_eq_getElem?_getD, List.getElem?_eq_none (by rw [wrote_len]; omega)]; decide
/-- A drive that has written some bytes of a sector. -/
def drW (s : Int) (x : List Int) (i : Nat) : Dr :=
  if i = 16 then ⟨1, 0, 0, s, 0, 0, x.getD 15 0, 0, 0, 0⟩ else ⟨1, 0, 4, s, i, if i = 0 then 30 else 20, if i = 0 then 0 else x.getD (i - 1) 0, 1, 0, 0⟩
theorem drW_ok (s : Int) (x m : List Int) (i : Nat) (hs : 0 ≤ s ∧ s < 4) (hx : Bytes x) (hi : i ≤ 16) (hm : m.length = 256 * 1) (hB : Bytes m) : (drW s x i).Ok m 1 := by
  have h1 := hx 15
  have h2 := hx (i - 1)
  unfold drW
  split
  · constructor <;> first | assumption | omega | (dsimp only; omega)
  · constructor <;> first | assumption | omega | (dsimp only; omega) | (dsimp only; split <;> omega)
theorem drW_step (s : Int) (x m : List Int) (i : Nat) (hs : 0 ≤ s ∧ s < 4) (hi : i < 16) (hm : m.length = 256 * 1) :
    Dr.skip (drW s x i).l.toNat (drW s x i).l { drW s x i with d := x.getD i 0, r := 0 } (wrote m x (s.toNat * 16) i) = (drW s x (i + 1), wrote m x (s.toNat * 16) (i + 1)) := by
  have e : drW s x i = ⟨1, 0, 4, s, i, if i = 0 then 30 else 20, if i = 0 then 0 else x.getD (i - 1) 0, 1, 0, 0⟩ := by unfold drW; rw [if_neg (by omega)]
  rw [e]
  dsimp only
  rw [Dr.skip_due (if i = 0 then 30 else 20) ⟨1, 0, 4, s, i, if i = 0 then 30 else 20, x.getD i 0, 0, 0, 0⟩ _ (by split <;> omega) (by dsimp only; omega) (by dsimp only; omega) rfl]
  dsimp only
  have hp : Dr.place ⟨1, 0, 4, s, i, 0, x.getD i 0, 0, 0, 0⟩ = ((s.toNat * 16 + i : Nat) : Int) := by
    unfold Dr.place
    show ((1 : Int) - 1) * 256 + (0 * 4 + s) * 16 + (i : Int) = _
    omega
  refine Prod.ext ?_ ?_
  · unfold Dr.done Dr.next drW
    dsimp only
    rw [if_neg (by omega)]
    by_cases h16 : i + 1 = 16
    · obtain rfl : i = 15 := by omega
      rfl
    · rw [if_neg (by omega), if_neg h16]
      simp
  · unfold Dr.doneM
    dsimp only
    rw [if_pos rfl, hp, Int.toNat_natCast]
    exact wrote_set m x _ i (by omega)
theorem drivewrites_ok (l dl : List Int) (SS OO : Int) : FnE Try.prog 8 [.sl 1 (cells l), .sl 1 (cells dl), I SS, I OO] [] (.c (.bool true)) [] := by
  refine N.fn Try.func8 k8 (Nat.le_of_ble_eq_true rfl) q8 fun Q hQ hQN => ?_
  rw [c8]
  obtain ⟨s, hs⟩ : ∃ s, SS % 4 = s := ⟨_, rfl⟩
  obtain ⟨o, ho⟩ : ∃ o, OO % 4 = o := ⟨_, rfl⟩
  have hs1 : 0 ≤ s ∧ s < 4 := by omega
  have ho1 : 0 ≤ o ∧ o < 4 := by omega
  have B1 := below_ok SS 4 (by decide) (by decide)
  have B2 := below_ok OO 4 (by decide) (by decide)
  rw [hs] at B1
  rw [ho] at B2
  have hb := bytes_ok l 256 (by decide)
  have hb2 := bytes_ok dl 16 (by decide)
  have hMl := bytesOf_len l 256
  have hMB := bytesOf_bytes l 256
  have hXl := bytesOf_len dl 16
  have hXB := bytesOf_bytes dl 16
  obtain ⟨M, hM⟩ : ∃ M, bytesOf l 256 = M := ⟨_, rfl⟩
  obtain ⟨x, hx⟩ : ∃ x, bytesOf dl 16 = x := ⟨_, rfl⟩
  rw [hM] at hb hMl hMB
  rw [hx] at hb2 hXl hXB
  have hn := drvnewP M 1 hMl (by decide)
  rw [hMl] at hn
  have h0 : (⟨0, 0, 0, 0, 0, 0, 0, 0, 0, 0⟩ : Dr).Ok M 1 := by
    constructor <;> first | assumption | decide
  have hch := drvchange _ M 1 1 h0
  rw [show Dr.change ⟨0, 0, 0, 0, 0, 0, 0, 0, 0, 0⟩ 1 1 = drD 1 0 from rfl] at hch
  have hw0 := drvw0 (drD 1 0) M 1 (4 + 16 * s) (drD_ok 1 0 M 1 (by decide) (by decide) hMl (by decide) hMB)
  have hw1 : (drD 1 0).begin ((4 + 16 * s) % 2 ^ 8) = drW s x 0 := by
    rw [show (4 + 16 * s) % 2 ^ 8 = 4 + 16 * s by omega]
    unfold Dr.begin drD
    dsimp only
    rw [if_neg (by omega), show (4 + 16 * s) % 16 = 4 by omega, show (4 + 16 * s) / 16 % 4 = s by omega]
    rfl
  rw [hw1] at hw0
  repeat' (first
    | refine N.regS fun K hK => ?_
    | refine N.dregS fun K hK => ?_
    | refine N.regN fun K hK => ?_
    | refine N.dregN fun K hK => ?_
    | simp only [T.mv, AO.ev, put, lk, enter, reduceIte, Nat.reduceEqDiff, Nat.reduceAdd, Nat.reduceMul, Nat.reduceSub, ren_c, ren_tup, ren_agg, ren_sl, List.map, Int.reduceNeg, Int.toNat_zero, Nat.zero_add, Nat.add_zero, List.length_cons, List.length_nil, List.nil_append, List.cons_append, List.set_cons_zero, List.set_cons_succ, Int.reduceToNat, List.take_zero, upto, ren_psl, ren_ptr, List.getElem?_cons_zero, List.getElem?_cons_succ, renB, cells_ren, bcells_ren, setAll, List.append_nil, List.take_succ_cons, List.drop_succ_cons, List.drop_zero, List.take_nil, List.drop_nil, List.map_cons, List.map_nil, decide_eq_true_eq, Bool.false_eq_true, true_iff, iff_true, false_iff, iff_false]
    | (refine T.nil ?_; (first | refine hK _ _ _ (by rfl) ?_ | refine hK _ _ _ ?_); simp only [keep, List.map, lk, reduceIte, Nat.reduceEqDiff, enter]; clear hK; clear K)
    | (show WOpsT _ (⟨_, .call _ _, none⟩ :: _) _ _ _ _; first | refine T.callN e44 rfl (hb) (by simp) ?_ | refine T.callN e44 rfl (hb2) (by simp) ?_ | refine T.call0 e29 rfl (B1) ?_ | refine T.call0 e29 rfl (B2) ?_ | refine T.callP [0] e47 rfl (hn) (by first | rfl | exact pasH_nil | (unfold pasH; simp only [List.map]; (repeat' (first | rfl | exact pasB_bytes | exact pasB_ints | refine consE ?_ ?_)); done) | simp [pasH, pasB, cells_pas, bcells_pas]) rfl rfl rfl ?_ | refine T.call0 e46 rfl (hch) ?_ | refine T.call0 e45 rfl (hw0) ?_)
    | (show WOpsT _ (⟨_, .ld _ _, none⟩ :: _) _ _ _ _; first | refine T.ld rfl rfl rfl rfl rfl ?_ | refine T.ldd rfl rfl ?_ | refine T.ldn rfl rfl rfl rfl (Nat.le_of_ble_eq_true rfl) ?_ | refine T.lddn rfl (Nat.le_of_ble_eq_true rfl) ?_)
    | (show WOpsT _ (⟨_, .idx _ _ _ _, none⟩ :: _) _ _ _ _; first | refine T.idx rfl rfl rfl ⟨rfl, rfl⟩ (by omega) ?_ | refine T.idxs rfl rfl rfl (by omega) rfl ?_ | refine T.idxa rfl rfl rfl rfl (by omega) ?_ | refine T.idxd rfl rfl (by omega) ?_)
    | (show WOpsT _ (⟨_, .bin _ _ _, none⟩ :: _) _ _ _ _; first | refine T.add rfl rfl (by omega) (by omega) ?_ | refine T.sub rfl rfl (by omega) (by omega) ?_ | refine T.mul rfl rfl (by omega) (by omega) ?_ | refine T.rem rfl rfl (by omega) ?_ | refine T.quo rfl rfl (by omega) ?_ | refine T.shl rfl rfl (by omega) ?_ | refine T.shr rfl rfl (by omega) ?_ | refine T.bin rfl rfl rfl ?_)
    | (show WOpsT _ (⟨_, _, some (_, true)⟩ :: _) _ _ _ _; first | refine T.goT rfl (by omega) ?_ | refine T.paT rfl (by omega) ?_ | refine T.go rfl rfl ?_ | refine T.pass rfl rfl ?_ | refine T.pU rfl ?_ | refine T.gT rfl (fun hgd => ?_) (fun hgd => ?_))
    | (show WOpsT _ (⟨_, _, some (_, false)⟩ :: _) _ _ _ _; first | refine T.goF rfl (by omega) ?_ | refine T.paF rfl (by omega) ?_ | refine T.go rfl rfl ?_ | refine T.pass rfl rfl ?_ | refine T.pU rfl ?_ | refine T.gF rfl (fun hgd => ?_) (fun hgd => ?_))
    | (show WOpsT _ (⟨_, .pick _ _ _, none⟩ :: _) _ _ _ _; first | refine T.pkT rfl (by omega) ?_ | refine T.pkF rfl (by omega) ?_ | refine T.pickT rfl rfl ?_ | refine T.pickF rfl rfl ?_ | refine T.pickB rfl rfl rfl ?_ | refine T.pkD rfl (fun hgd => ?_) (fun hgd => ?_))
    | (show AKW _ _ _ _ _ _ _; first | refine N.now ?_)
    | (show UK _ _ _ _ _ _ _ _; first | refine N.round ?_)
    | (show UC _ _ _ _ _ _ _ _; first | refine N.ucN ?_)
    | (show AK _ _ (.cond _ _ _) _ _ _ _; first | refine N.cT rfl (by omega) ?_ | refine N.cF rfl (by omega) ?_ | refine N.condT rfl rfl ?_ | refine N.condF rfl rfl ?_ | refine N.condD rfl (fun hcd => ?_) (fun hcd => ?_) | refine N.condB rfl (fun hcd => ?_) (fun hcd => ?_) | refine N.condU rfl ?_ ?_)
    | (show AK _ _ _ _ _ _ _; first | refine N.seq ?_ | refine N.skip ?_ | refine N.exit ?_ | refine N.ret ?_)
    | (show RK _ _ _ _ _ _ _; first | refine N.seqN ?_ | refine N.blkN ?_ | refine N.blkE rfl ?_ | refine N.blkX (by decide) ?_ | refine N.seqX ?_ | refine N.lpX ?_ | refine N.cuN ?_ | refine N.cuE rfl ?_ | refine N.cuX (by decide) ?_ | refine N.cuR ?_ | refine N.seqR ?_ | refine N.blkR ?_ | refine N.lpR ?_ | refine N.lpN ?_ | refine N.nil ?_)
    | (show WOpsT _ _ _ _ _ _; first | refine T.min2 rfl rfl rfl ?_ | refine T.max2 rfl rfl rfl ?_ | refine T.ext rfl rfl ?_ | refine T.lenc ?_ | refine T.eqnP rfl rfl ⟨rfl, by decide⟩ ?_ | refine T.eqnN rfl ?_ | refine T.eqnU rfl ?_ | refine T.lens rfl ?_ | refine T.i2s rfl ?_ | refine T.s2b rfl ?_ | refine T.slcs rfl rfl rfl (by omega) ?_ | refine T.capN rfl ?_ | refine T.slcN rfl rfl rfl ?_ | refine T.neg rfl ?_ | refine T.xorn rfl ?_ | refine T.notD rfl ?_ | refine T.not rfl ?_ | refine T.eqb0 rfl rfl ?_ | refine T.eqb1 rfl rfl ?_ | refine T.cvt rfl ?_ | refine T.fad rfl rfl rfl ?_ | refine T.fadd rfl ?_ | refine T.nilc rfl rfl rfl ?_ | refine T.nilcd rfl ?_ | refine T.nilcf rfl ?_ | refine T.nilci rfl ?_ | refine T.st rfl rfl rfl ⟨rfl, rfl⟩ rfl (Nat.le_of_ble_eq_true rfl) ?_ | refine T.fld rfl rfl ?_ | refine T.new rfl ⟨rfl, by decide⟩ ?_ | refine T.zero (by decide) ?_ | refine T.build rfl ?_ | refine T.len rfl rfl rfl ?_ | refine T.lenS rfl ?_ | refine T.lenN rfl ?_ | refine T.mkf ?_ | refine T.mki ?_ | refine T.mksl rfl rfl (by decide) ?_ | refine T.copy rfl rfl rfl ⟨rfl, rfl⟩ ?_ | refine T.ixa rfl rfl (by omega) rfl ?_ | refine T.bsl rfl (by decide) ?_ | refine T.slc rfl rfl rfl rfl ⟨rfl, rfl⟩ (by omega) ?_ | refine T.slcS rfl rfl rfl rfl (by omega) ?_)
    | refine hQ _ _ _ rfl ?_
    | refine hQN _ _ _ rfl ?_)
  refine N.block ?_
  refine N.loop (σ := Nat) (fun i => [(2, I s), (3, I o), (9, .psl 0 1 0 256), (10, .psl 1 1 0 16), (11, .ptr 2 1 0 0), (36, .psl 1 1 0 16), (37, I 16), (38, I i)]) (fun i => [memB M, memB x, ⟨1, 2, [[.sl 1 (cells (dr10 (drW s x i))), .sl 1 (bcells (wrote M x (s.toNat * 16) i))]]⟩]) (fun i => i ≤ 16) (fun i => 16 - i) 0 (by omega)
    (Weaks.sel (by repeat (first | exact trivial | refine ⟨.rfl, ?_⟩ | refine ⟨.any, ?_⟩)) (by rw [wrote_zero]; rfl)) fun i hi C hC => ?_
  by_cases hi2 : i < 16
  · have hwl := wrote_len M x (s.toNat * 16) i
    have hwB := wrote_bytes M x (s.toNat * 16) i hMB hXB
    have hd := drW_ok s x _ i hs1 hXB hi (hwl.trans hMl) hwB
    have hxi := hXB i
    have hw := drvw1 (drW s x i) _ 1 (x.getD i 0) hd
    have hc4 : (drW s x i).c = 4 := by unfold drW; rw [if_neg (by omega)]
    have hl : (drW s x i).l = if i = 0 then 30 else 20 := by unfold drW; rw [if_neg (by omega)]
    rw [if_pos hc4, show x.getD i 0 % 2 ^ 8 = x.getD i 0 by omega] at hw
    have hd2 : ({ drW s x i with d := x.getD i 0, r := 0 } : Dr).Ok (wrote M x (s.toNat * 16) i) 1 := { hd with d := hxi, r := by dsimp only; omega }
    have hsk := drvskip _ _ 1 (drW s x i).l hd2 (by have := hd.l; omega)
    rw [drW_step s x M i hs1 hi2 hMl, hl] at hsk
    have hg : (bcells x)[0 + (i : Int).toNat]? = some [.c (.int .u8 (x.getD i 0))] := by
      rw [Nat.zero_add, Int.toNat_natCast]; exact bget (by omega)
    have hwr : IntKind.wrap .i64 (x.getD i 0) = x.getD i 0 := wrap64 (by omega) (by omega)
    have hq : IntKind.wrap .i64 (IntKind.wrap .i64 (x.getD i 0)) = x.getD i 0 := by rw [hwr, hwr]
    by_cases h0 : i = 0
    · subst h0
      rw [if_pos rfl] at hsk
      repeat' (first
        | refine T.ld rfl rfl rfl hg rfl ?_
        | rw [hwr]
        | refine N.regS fun K hK => ?_
        | refine N.dregS fun K hK => ?_
        | refine N.regN fun K hK => ?_
        | refine N.dregN fun K hK => ?_
        | simp only [T.mv, AO.ev, put, lk, enter, reduceIte, Nat.reduceEqDiff, Nat.reduceAdd, Nat.reduceMul, Nat.reduceSub, ren_c, ren_tup, ren_agg, ren_sl, List.map, Int.reduceNeg, Int.toNat_zero, Nat.zero_add, Nat.add_zero, List.length_cons, List.length_nil, List.nil_append, List.cons_append, List.set_cons_zero, List.set_cons_succ, Int.reduceToNat, List.take_zero, upto, ren_psl, ren_ptr, List.getElem?_cons_zero, List.getElem?_cons_succ, renB, cells_ren, bcells_ren, setAll, List.append_nil, List.take_succ_cons, List.drop_succ_cons, List.drop_zero, List.take_nil, List.drop_nil, List.map_cons, List.map_nil, decide_eq_true_eq, Bool.false_eq_true, true_iff, iff_true, false_iff, iff_false]
        | (refine T.nil ?_; (first | refine hK _ _ _ (by rfl) ?_ | refine hK _ _ _ ?_); simp only [keep, List.map, lk, reduceIte, Nat.reduceEqDiff, enter]; clear hK; clear K)
        | (show WOpsT _ (⟨_, .call _ _, none⟩ :: _) _ _ _ _; first | refine T.call0 e45 rfl (hw) ?_ | refine T.call0 e48 rfl (hsk) ?_)
        | (show WOpsT _ (⟨_, .ld _ _, none⟩ :: _) _ _ _ _; first | refine T.ld rfl rfl rfl rfl rfl ?_ | refine T.ldd rfl rfl ?_ | refine T.ldn rfl rfl rfl rfl (Nat.le_of_ble_eq_true rfl) ?_ | refine T.lddn rfl (Nat.le_of_ble_eq_true rfl) ?_)
        | (show WOpsT _ (⟨_, .idx _ _ _ _, none⟩ :: _) _ _ _ _; first | refine T.idx rfl rfl rfl ⟨rfl, rfl⟩ (by omega) ?_ | refine T.idxs rfl rfl rfl (by omega) rfl ?_ | refine T.idxa rfl rfl rfl rfl (by omega) ?_ | refine T.idxd rfl rfl (by omega) ?_)
        | (show WOpsT _ (⟨_, .bin _ _ _, none⟩ :: _) _ _ _ _; first | refine T.add rfl rfl (by omega) (by omega) ?_ | refine T.sub rfl rfl (by omega) (by omega) ?_ | refine T.mul rfl rfl (by omega) (by omega) ?_ | refine T.rem rfl rfl (by omega) ?_ | refine T.quo rfl rfl (by omega) ?_ | refine T.shl rfl rfl (by omega) ?_ | refine T.shr rfl rfl (by omega) ?_ | refine T.bin rfl rfl rfl ?_)
        | (show WOpsT _ (⟨_, _, some (_, true)⟩ :: _) _ _ _ _; first | refine T.goT rfl (by omega) ?_ | refine T.paT rfl (by omega) ?_ | refine T.go rfl rfl ?_ | refine T.pass rfl rfl ?_ | refine T.pU rfl ?_ | refine T.gT rfl (fun hgd => ?_) (fun hgd => ?_))
        | (show WOpsT _ (⟨_, _, some (_, false)⟩ :: _) _ _ _ _; first | refine T.goF rfl (by omega) ?_ | refine T.paF rfl (by omega) ?_ | refine T.go rfl rfl ?_ | refine T.pass rfl rfl ?_ | refine T.pU rfl ?_ | refine T.gF rfl (fun hgd => ?_) (fun hgd => ?_))
        | (show WOpsT _ (⟨_, .pick _ _ _, none⟩ :: _) _ _ _ _; first | refine T.pkT rfl (by omega) ?_ | refine T.pkF rfl (by omega) ?_ | refine T.pickT rfl rfl ?_ | refine T.pickF rfl rfl ?_ | refine T.pickB rfl rfl rfl ?_ | refine T.pkD rfl (fun hgd => ?_) (fun hgd => ?_))
        | (show AKW _ _ _ _ _ _ _; first | refine N.now ?_)
        | (show UK _ _ _ _ _ _ _ _; first | refine N.round ?_)
        | (show UC _ _ _ _ _ _ _ _; first | refine N.ucN ?_)
        | (show AK _ _ (.cond _ _ _) _ _ _ _; first | refine N.cT rfl (by omega) ?_ | refine N.cF rfl (by omega) ?_ | refine N.condT rfl rfl ?_ | refine N.condF rfl rfl ?_ | refine N.condD rfl (fun hcd => ?_) (fun hcd => ?_) | refine N.condB rfl (fun hcd => ?_) (fun hcd => ?_) | refine N.condU rfl ?_ ?_)
        | (show AK _ _ _ _ _ _ _; first | refine N.seq ?_ | refine N.block ?_ | refine N.skip ?_ | refine N.exit ?_ | refine N.ret ?_)
        | (show RK _ _ _ _ _ _ _; first | refine N.seqN ?_ | refine N.blkN ?_ | refine N.blkE rfl ?_ | refine N.blkX (by decide) ?_ | refine N.seqX ?_ | refine N.lpX ?_ | refine N.cuN ?_ | refine N.cuE rfl ?_ | refine N.cuX (by decide) ?_ | refine N.cuR ?_ | refine N.seqR ?_ | refine N.blkR ?_ | refine N.lpR ?_ | refine N.lpN ?_ | refine N.nil ?_)
        | (show WOpsT _ _ _ _ _ _; first | refine T.min2 rfl rfl rfl ?_ | refine T.max2 rfl rfl rfl ?_ | refine T.ext rfl rfl ?_ | refine T.lenc ?_ | refine T.eqnP rfl rfl ⟨rfl, by decide⟩ ?_ | refine T.eqnN rfl ?_ | refine T.eqnU rfl ?_ | refine T.lens rfl ?_ | refine T.i2s rfl ?_ | refine T.s2b rfl ?_ | refine T.slcs rfl rfl rfl (by omega) ?_ | refine T.capN rfl ?_ | refine T.slcN rfl rfl rfl ?_ | refine T.neg rfl ?_ | refine T.xorn rfl ?_ | refine T.notD rfl ?_ | refine T.not rfl ?_ | refine T.eqb0 rfl rfl ?_ | refine T.eqb1 rfl rfl ?_ | refine T.cvt rfl ?_ | refine T.fad rfl rfl rfl ?_ | refine T.fadd rfl ?_ | refine T.nilc rfl rfl rfl ?_ | refine T.nilcd rfl ?_ | refine T.nilcf rfl ?_ | refine T.nilci rfl ?_ | refine T.st rfl rfl rfl ⟨rfl, rfl⟩ rfl (Nat.le_of_ble_eq_true rfl) ?_ | refine T.fld rfl rfl ?_ | refine T.new rfl ⟨rfl, by decide⟩ ?_ | refine T.zero (by decide) ?_ | refine T.build rfl ?_ | refine T.len rfl rfl rfl ?_ | refine T.lenS rfl ?_ | refine T.lenN rfl ?_ | refine T.mkf ?_ | refine T.mki ?_ | refine T.mksl rfl rfl (by decide) ?_ | refine T.copy rfl rfl rfl ⟨rfl, rfl⟩ ?_ | refine T.ixa rfl rfl (by omega) rfl ?_ | refine T.bsl rfl (by decide) ?_ | refine T.slc rfl rfl rfl rfl ⟨rfl, rfl⟩ (by omega) ?_ | refine T.slcS rfl rfl rfl rfl (by omega) ?_)
        | refine hQ _ _ _ rfl ?_
        | refine hQN _ _ _ rfl ?_)
      exact hC _ _ 1 (by omega) (by omega) (Weaks.gc [0, 1, 2] 1 rfl (by repeat (first | exact trivial | refine ⟨.rfl, ?_⟩ | refine ⟨.any, ?_⟩)) (by first | rfl | (symm; unfold outH; simp only [List.map]; (repeat' (first | rfl | exact outB_bytes | exact outB_ints | refine consE ?_ ?_)); done)))
    · rw [if_neg h0] at hsk
      have e : min (i : Int) 1 = 1 := by omega
      repeat' (first
        | refine T.ld rfl rfl rfl hg rfl ?_
        | rw [hwr]
        | rw [e]
        | refine N.regS fun K hK => ?_
        | refine N.dregS fun K hK => ?_
        | refine N.regN fun K hK => ?_
        | refine N.dregN fun K hK => ?_
        | simp only [T.mv, AO.ev, put, lk, enter, reduceIte, Nat.reduceEqDiff, Nat.reduceAdd, Nat.reduceMul, Nat.reduceSub, ren_c, ren_tup, ren_agg, ren_sl, List.map, Int.reduceNeg, Int.toNat_zero, Nat.zero_add, Nat.add_zero, List.length_cons, List.length_nil, List.nil_append, List.cons_append, List.set_cons_zero, List.set_cons_succ, Int.reduceToNat, List.take_zero, upto, ren_psl, ren_ptr, List.getElem?_cons_zero, List.getElem?_cons_succ, renB, cells_ren, bcells_ren, setAll, List.append_nil, List.take_succ_cons, List.drop_succ_cons, List.drop_zero, List.take_nil, List.drop_nil, List.map_cons, List.map_nil, decide_eq_true_eq, Bool.false_eq_true, true_iff, iff_true, false_iff, iff_false]
        | (refine T.nil ?_; (first | refine hK _ _ _ (by rfl) ?_ | refine hK _ _ _ ?_); simp only [keep, List.map, lk, reduceIte, Nat.reduceEqDiff, enter]; clear hK; clear K)
        | (show WOpsT _ (⟨_, .call _ _, none⟩ :: _) _ _ _ _; first | refine T.call0 e45 rfl (hw) ?_ | refine T.call0 e48 rfl (hsk) ?_)
        | (show WOpsT _ (⟨_, .ld _ _, none⟩ :: _) _ _ _ _; first | refine T.ld rfl rfl rfl rfl rfl ?_ | refine T.ldd rfl rfl ?_ | refine T.ldn rfl rfl rfl rfl (Nat.le_of_ble_eq_true rfl) ?_ | refine T.lddn rfl (Nat.le_of_ble_eq_true rfl) ?_)
        | (show WOpsT _ (⟨_, .idx _ _ _ _, none⟩ :: _) _ _ _ _; first | refine T.idx rfl rfl rfl ⟨rfl, rfl⟩ (by omega) ?_ | refine T.idxs rfl rfl rfl (by omega) rfl ?_ | refine T.idxa rfl rfl rfl rfl (by omega) ?_ | refine T.idxd rfl rfl (by omega) ?_)
        | (show WOpsT _ (⟨_, .bin _ _ _, none⟩ :: _) _ _ _ _; first | refine T.add rfl rfl (by omega) (by omega) ?_ | refine T.sub rfl rfl (by omega) (by omega) ?_ | refine T.mul rfl rfl (by omega) (by omega) ?_ | refine T.rem rfl rfl (by omega) ?_ | refine T.quo rfl rfl (by omega) ?_ | refine T.shl rfl rfl (by omega) ?_ | refine T.shr rfl rfl (by omega) ?_ | refine T.bin rfl rfl rfl ?_)
        | (show WOpsT _ (⟨_, _, some (_, true)⟩ :: _) _ _ _ _; first | refine T.goT rfl (by omega) ?_ | refine T.paT rfl (by omega) ?_ | refine T.go rfl rfl ?_ | refine T.pass rfl rfl ?_ | refine T.pU rfl ?_ | refine T.gT rfl (fun hgd => ?_) (fun hgd => ?_))
        | (show WOpsT _ (⟨_, _, some (_, false)⟩ :: _) _ _ _ _; first | refine T.goF rfl (by omega) ?_ | refine T.paF rfl (by omega) ?_ | refine T.go rfl rfl ?_ | refine T.pass rfl rfl ?_ | refine T.pU rfl ?_ | refine T.gF rfl (fun hgd => ?_) (fun hgd => ?_))
        | (show WOpsT _ (⟨_, .pick _ _ _, none⟩ :: _) _ _ _ _; first | refine T.pkT rfl (by omega) ?_ | refine T.pkF rfl (by omega) ?_ | refine T.pickT rfl rfl ?_ | refine T.pickF rfl rfl ?_ | refine T.pickB rfl rfl rfl ?_ | refine T.pkD rfl (fun hgd => ?_) (fun hgd => ?_))
        | (show AKW _ _ _ _ _ _ _; first | refine N.now ?_)
        | (show UK _ _ _ _ _ _ _ _; first | refine N.round ?_)
        | (show UC _ _ _ _ _ _ _ _; first | refine N.ucN ?_)
        | (show AK _ _ (.cond _ _ _) _ _ _ _; first | refine N.cT rfl (by omega) ?_ | refine N.cF rfl (by omega) ?_ | refine N.condT rfl rfl ?_ | refine N.condF rfl rfl ?_ | refine N.condD rfl (fun hcd => ?_) (fun hcd => ?_) | refine N.condB rfl (fun hcd => ?_) (fun hcd => ?_) | refine N.condU rfl ?_ ?_)
        | (show AK _ _ _ _ _ _ _; first | refine N.seq ?_ | refine N.block ?_ | refine N.skip ?_ | refine N.exit ?_ | refine N.ret ?_)
        | (show RK _ _ _ _ _ _ _; first | refine N.seqN ?_ | refine N.blkN ?_ | refine N.blkE rfl ?_ | refine N.blkX (by decide) ?_ | refine N.seqX ?_ | refine N.lpX ?_ | refine N.cuN ?_ | refine N.cuE rfl ?_ | refine N.cuX (by decide) ?_ | refine N.cuR ?_ | refine N.seqR ?_ | refine N.blkR ?_ | refine N.lpR ?_ | refine N.lpN ?_ | refine N.nil ?_)
        | (show WOpsT _ _ _ _ _ _; first | refine T.min2 rfl rfl rfl ?_ | refine T.max2 rfl rfl rfl ?_ | refine T.ext rfl rfl ?_ | refine T.lenc ?_ | refine T.eqnP rfl rfl ⟨rfl, by decide⟩ ?_ | refine T.eqnN rfl ?_ | refine T.eqnU rfl ?_ | refine T.lens rfl ?_ | refine T.i2s rfl ?_ | refine T.s2b rfl ?_ | refine T.slcs rfl rfl rfl (by omega) ?_ | refine T.capN rfl ?_ | refine T.slcN rfl rfl rfl ?_ | refine T.neg rfl ?_ | refine T.xorn rfl ?_ | refine T.notD rfl ?_ | refine T.not rfl ?_ | refine T.eqb0 rfl rfl ?_ | refine T.eqb1 rfl rfl ?_ | refine T.cvt rfl ?_ | refine T.fad rfl rfl rfl ?_ | refine T.fadd rfl ?_ | refine T.nilc rfl rfl rfl ?_ | refine T.nilcd rfl ?_ | refine T.nilcf rfl ?_ | refine T.nilci rfl ?_ | refine T.st rfl rfl rfl ⟨rfl, rfl⟩ rfl (Nat.le_of_ble_eq_true rfl) ?_ | refine T.fld rfl rfl ?_ | refine T.new rfl ⟨rfl, by decide⟩ ?_ | refine T.zero (by decide) ?_ | refine T.build rfl ?_ | refine T.len rfl rfl rfl ?_ | refine T.lenS rfl ?_ | refine T.lenN rfl ?_ | refine T.mkf ?_ | refine T.mki ?_ | refine T.mksl rfl rfl (by decide) ?_ | refine T.copy rfl rfl rfl ⟨rfl, rfl⟩ ?_ | refine T.ixa rfl rfl (by omega) rfl ?_ | refine T.bsl rfl (by decide) ?_ | refine T.slc rfl rfl rfl rfl ⟨rfl, rfl⟩ (by omega) ?_ | refine T.slcS rfl rfl rfl rfl (by omega) ?_)
        | refine hQ _ _ _ rfl ?_
        | refine hQN _ _ _ rfl ?_)
      exact hC _ _ (i + 1) (by omega) (by omega) (Weaks.gc [0, 1, 2] 1 rfl (by repeat (first | exact trivial | refine ⟨.rfl, ?_⟩ | refine ⟨.any, ?_⟩)) (by first | rfl | (symm; unfold outH; simp only [List.map]; (repeat' (first | rfl | exact outB_bytes | exact outB_ints | refine consE ?_ ?_)); done)))
  · obtain rfl : i = 16 := by omega
    obtain ⟨W, hW⟩ : ∃ W, wrote M x (s.toNat * 16) 16 = W := ⟨_, rfl⟩
    have hWl : W.length = 256 * 1 := by rw [← hW, wrote_len]; exact hMl
    have hWB : Bytes W := by rw [← hW]; exact wrote_bytes M x _ 16 hMB hXB
    have hWg := fun j hj => wrote_get M x (s.toNat * 16) 16 j hj
    rw [hW] at hWg
    have hd := drW_ok s x W 16 hs1 hXB (by decide) hWl hWB
    have e16 : drW s x 16 = ⟨1, 0, 0, s, 0, 0, x.getD 15 0, 0, 0, 0⟩ := rfl
    rw [e16] at hd
    have hr := drvr0 _ W 1 hd
    rw [show (min 1 (⟨1, 0, 0, s, 0, 0, x.getD 15 0, 0, 0, 0⟩ : Dr).c + 2 * (⟨1, 0, 0, s, 0, 0, x.getD 15 0, 0, 0, 0⟩ : Dr).r + 4 * (⟨1, 0, 0, s, 0, 0, x.getD 15 0, 0, 0, 0⟩ : Dr).o + if (⟨1, 0, 0, s, 0, 0, x.getD 15 0, 0, 0, 0⟩ : Dr).k = 0 then 8 else 0) = 0 from rfl] at hr
    have hf1 := drvfetch _ W 1 s hd rfl (show (1 : Int) ≤ 1 by decide) hs1
    have hfo := Dr.fe_ok _ W 1 s 16 hd hs1 (by decide)
    have hf2 := drvfetch _ W 1 o hfo rfl (show (1 : Int) ≤ 1 by decide) ho1
    have p1 : (⟨1, 0, 0, s, 0, 0, x.getD 15 0, 0, 0, 0⟩ : Dr).sec s = s.toNat * 16 := by
      show (((1 : Int) - 1) * 256 + (0 * 4 + s) * 16).toNat = _
      omega
    have p2 : (Dr.fe ⟨1, 0, 0, s, 0, 0, x.getD 15 0, 0, 0, 0⟩ W s 16).sec o = o.toNat * 16 := by
      show (((1 : Int) - 1) * 256 + (0 * 4 + o) * 16).toNat = _
      omega
    rw [p1] at hf1
    rw [p2] at hf2
    repeat' (first
      | rw [hW]
      | rw [e16]
      | refine N.regS fun K hK => ?_
      | refine N.dregS fun K hK => ?_
      | refine N.regN fun K hK => ?_
      | refine N.dregN fun K hK => ?_
      | simp only [T.mv, AO.ev, put, lk, enter, reduceIte, Nat.reduceEqDiff, Nat.reduceAdd, Nat.reduceMul, Nat.reduceSub, ren_c, ren_tup, ren_agg, ren_sl, List.map, Int.reduceNeg, Int.toNat_zero, Nat.zero_add, Nat.add_zero, List.length_cons, List.length_nil, List.nil_append, List.cons_append, List.set_cons_zero, List.set_cons_succ, Int.reduceToNat, List.take_zero, upto, ren_psl, ren_ptr, List.getElem?_cons_zero, List.getElem?_cons_succ, renB, cells_ren, bcells_ren, setAll, List.append_nil, List.take_succ_cons, List.drop_succ_cons, List.drop_zero, List.take_nil, List.drop_nil, List.map_cons, List.map_nil, decide_eq_true_eq, Bool.false_eq_true, true_iff, iff_true, false_iff, iff_false]
      | (refine T.nil ?_; (first | refine hK _ _ _ (by rfl) ?_ | refine hK _ _ _ ?_); simp only [keep, List.map, lk, reduceIte, Nat.reduceEqDiff, enter]; clear hK; clear K)
      | (show WOpsT _ (⟨_, .call _ _, none⟩ :: _) _ _ _ _; first | refine T.call0 e49 rfl (hr) ?_ | refine T.call0 e50 rfl (hf1) ?_ | refine T.call0 e50 rfl (hf2) ?_)
      | (show WOpsT _ (⟨_, .ld _ _, none⟩ :: _) _ _ _ _; first | refine T.ld rfl rfl rfl rfl rfl ?_ | refine T.ldd rfl rfl ?_ | refine T.ldn rfl rfl rfl rfl (Nat.le_of_ble_eq_true rfl) ?_ | refine T.lddn rfl (Nat.le_of_ble_eq_true rfl) ?_)
      | (show WOpsT _ (⟨_, .idx _ _ _ _, none⟩ :: _) _ _ _ _; first | refine T.idx rfl rfl rfl ⟨rfl, rfl⟩ (by omega) ?_ | refine T.idxs rfl rfl rfl (by omega) rfl ?_ | refine T.idxa rfl rfl rfl rfl (by omega) ?_ | refine T.idxd rfl rfl (by omega) ?_)
      | (show WOpsT _ (⟨_, .bin _ _ _, none⟩ :: _) _ _ _ _; first | refine T.add rfl rfl (by omega) (by omega) ?_ | refine T.sub rfl rfl (by omega) (by omega) ?_ | refine T.mul rfl rfl (by omega) (by omega) ?_ | refine T.rem rfl rfl (by omega) ?_ | refine T.quo rfl rfl (by omega) ?_ | refine T.shl rfl rfl (by omega) ?_ | refine T.shr rfl rfl (by omega) ?_ | refine T.bin rfl rfl rfl ?_)
      | (show WOpsT _ (⟨_, _, some (_, true)⟩ :: _) _ _ _ _; first | refine T.goT rfl (by omega) ?_ | refine T.paT rfl (by omega) ?_ | refine T.go rfl rfl ?_ | refine T.pass rfl rfl ?_ | refine T.pU rfl ?_ | refine T.gT rfl (fun hgd => ?_) (fun hgd => ?_))
      | (show WOpsT _ (⟨_, _, some (_, false)⟩ :: _) _ _ _ _; first | refine T.goF rfl (by omega) ?_ | refine T.paF rfl (by omega) ?_ | refine T.go rfl rfl ?_ | refine T.pass rfl rfl ?_ | refine T.pU rfl ?_ | refine T.gF rfl (fun hgd => ?_) (fun hgd => ?_))
      | (show WOpsT _ (⟨_, .pick _ _ _, none⟩ :: _) _ _ _ _; first | refine T.pkT rfl (by omega) ?_ | refine T.pkF rfl (by omega) ?_ | refine T.pickT rfl rfl ?_ | refine T.pickF rfl rfl ?_ | refine T.pickB rfl rfl rfl ?_ | refine T.pkD rfl (fun hgd => ?_) (fun hgd => ?_))
      | (show AKW _ _ _ _ _ _ _; first | refine N.now ?_)
      | (show UK _ _ _ _ _ _ _ _; first | refine N.round ?_)
      | (show UC _ _ _ _ _ _ _ _; first | refine N.ucN ?_)
      | (show AK _ _ (.cond _ _ _) _ _ _ _; first | refine N.cT rfl (by omega) ?_ | refine N.cF rfl (by omega) ?_ | refine N.condT rfl rfl ?_ | refine N.condF rfl rfl ?_ | refine N.condD rfl (fun hcd => ?_) (fun hcd => ?_) | refine N.condB rfl (fun hcd => ?_) (fun hcd => ?_) | refine N.condU rfl ?_ ?_)
      | (show AK _ _ _ _ _ _ _; first | refine N.seq ?_ | refine N.skip ?_ | refine N.exit ?_ | refine N.ret ?_)
      | (show RK _ _ _ _ _ _ _; first | refine N.seqN ?_ | refine N.blkN ?_ | refine N.blkE rfl ?_ | refine N.blkX (by decide) ?_ | refine N.seqX ?_ | refine N.lpX ?_ | refine N.cuN ?_ | refine N.cuE rfl ?_ | refine N.cuX (by decide) ?_ | refine N.cuR ?_ | refine N.seqR ?_ | refine N.blkR ?_ | refine N.lpR ?_ | refine N.lpN ?_ | refine N.nil ?_)
      | (show WOpsT _ _ _ _ _ _; first | refine T.min2 rfl rfl rfl ?_ | refine T.max2 rfl rfl rfl ?_ | refine T.ext rfl rfl ?_ | refine T.lenc ?_ | refine T.eqnP rfl rfl ⟨rfl, by decide⟩ ?_ | refine T.eqnN rfl ?_ | refine T.eqnU rfl ?_ | refine T.lens rfl ?_ | refine T.i2s rfl ?_ | refine T.s2b rfl ?_ | refine T.slcs rfl rfl rfl (by omega) ?_ | refine T.capN rfl ?_ | refine T.slcN rfl rfl rfl ?_ | refine T.neg rfl ?_ | refine T.xorn rfl ?_ | refine T.notD rfl ?_ | refine T.not rfl ?_ | refine T.eqb0 rfl rfl ?_ | refine T.eqb1 rfl rfl ?_ | refine T.cvt rfl ?_ | refine T.fad rfl rfl rfl ?_ | refine T.fadd rfl ?_ | refine T.nilc rfl rfl rfl ?_ | refine T.nilcd rfl ?_ | refine T.nilcf rfl ?_ | refine T.nilci rfl ?_ | refine T.st rfl rfl rfl ⟨rfl, rfl⟩ rfl (Nat.le_of_ble_eq_true rfl) ?_ | refine T.fld rfl rfl ?_ | refine T.new rfl ⟨rfl, by decide⟩ ?_ | refine T.zero (by decide) ?_ | refine T.build rfl ?_ | refine T.len rfl rfl rfl ?_ | refine T.lenS rfl ?_ | refine T.lenN rfl ?_ | refine T.mkf ?_ | refine T.mki ?_ | refine T.mksl rfl rfl (by decide) ?_ | refine T.copy rfl rfl rfl ⟨rfl, rfl⟩ ?_ | refine T.ixa rfl rfl (by omega) rfl ?_ | refine T.bsl rfl (by decide) ?_ | refine T.slc rfl rfl rfl rfl ⟨rfl, rfl⟩ (by omega) ?_ | refine T.slcS rfl rfl rfl rfl (by omega) ?_)
      | refine hQ _ _ _ rfl ?_
      | refine hQN _ _ _ rfl ?_)
    refine N.block ?_
    refine N.loop (σ := Nat) (fun j => [(2, I s), (3, I o), (9, .psl 0 1 0 256), (10, .psl 1 1 0 16), (14, I 0), (17, .sl 1 (cells (sect W (o.toNat * 16) 16))), (71, .sl 1 (cells (sect W (s.toNat * 16) 16))), (72, I 16), (73, I j)]) (fun j => [memB M, memB x]) (fun j => j ≤ 16) (fun j => 16 - j) 0 (by omega) (Weaks.gc [0, 1] 1 rfl (by repeat (first | exact trivial | refine ⟨.rfl, ?_⟩ | refine ⟨.any, ?_⟩)) (by first | rfl | (symm; unfold outH; simp only [List.map]; (repeat' (first | rfl | exact outB_bytes | exact outB_ints | refine consE ?_ ?_)); done))) fun j hj C2 hC2 => ?_
    by_cases hj2 : j < 16
    · have hg1 : (cells (sect W (s.toNat * 16) 16))[(j : Int).toNat]? = some [I (x.getD j 0)] := by
        rw [Int.toNat_natCast, cells_get]
        simp only [sect, List.getElem?_map, List.getElem?_range hj2, Option.map_some]
        rw [hWg _ (by omega), if_pos (by omega), Nat.add_sub_cancel_left]
      have hg2 : (cells (sect W (o.toNat * 16) 16))[(j : Int).toNat]? = some [I (if o = s then x.getD j 0 else M.getD (o.toNat * 16 + j) 0)] := by
        rw [Int.toNat_natCast, cells_get]
        simp only [sect, List.getElem?_map, List.getElem?_range hj2, Option.map_some]
        rw [hWg _ (by omega)]
        by_cases hos : o = s
        · subst hos; rw [if_pos (by omega), if_pos rfl, Nat.add_sub_cancel_left]
        · rw [if_neg (by omega), if_neg hos]
      have hg3 : (bcells x)[0 + (j : Int).toNat]? = some [.c (.int .u8 (x.getD j 0))] := by
        rw [Nat.zero_add, Int.toNat_natCast]; exact bget (by omega)
      have hg4 : (bcells M)[0 + (o * 16 + (j : Int)).toNat]? = some [.c (.int .u8 (M.getD (o.toNat * 16 + j) 0))] := by
        rw [Nat.zero_add, show (o * 16 + (j : Int)).toNat = o.toNat * 16 + j by omega]; exact bget (by omega)
      have hxj := hXB j
      have hmj := hMB (o.toNat * 16 + j)
      have hw1 : IntKind.wrap .i64 (x.getD j 0) = x.getD j 0 := wrap64 (by omega) (by omega)
      have hw2 : IntKind.wrap .i64 (M.getD (o.toNat * 16 + j) 0) = M.getD (o.toNat * 16 + j) 0 := wrap64 (by omega) (by omega)
      by_cases hos : o = s
      · rw [if_pos hos] at hg2
        repeat' (first
          | refine T.idxs rfl rfl rfl (by omega) hg1 ?_
          | refine T.idxs rfl rfl rfl (by omega) hg2 ?_
          | refine T.ld rfl rfl rfl hg3 rfl ?_
          | rw [hw1]
          | refine N.regS fun K hK => ?_
          | refine N.dregS fun K hK => ?_
          | refine N.regN fun K hK => ?_
          | refine N.dregN fun K hK => ?_
          | simp only [T.mv, AO.ev, put, lk, enter, reduceIte, Nat.reduceEqDiff, Nat.reduceAdd, Nat.reduceMul, Nat.reduceSub, ren_c, ren_tup, ren_agg, ren_sl, List.map, Int.reduceNeg, Int.toNat_zero, Nat.zero_add, Nat.add_zero, List.length_cons, List.length_nil, List.nil_append, List.cons_append, List.set_cons_zero, List.set_cons_succ, Int.reduceToNat, List.take_zero, upto, ren_psl, ren_ptr, List.getElem?_cons_zero, List.getElem?_cons_succ, renB, cells_ren, bcells_ren, setAll, List.append_nil, List.take_succ_cons, List.drop_succ_cons, List.drop_zero, List.take_nil, List.drop_nil, List.map_cons, List.map_nil, decide_eq_true_eq, Bool.false_eq_true, true_iff, iff_true, false_iff, iff_false]
          | (refine T.nil ?_; (first | refine hK _ _ _ (by rfl) ?_ | refine hK _ _ _ ?_); simp only [keep, List.map, lk, reduceIte, Nat.reduceEqDiff, enter]; clear hK; clear K)
          | (show WOpsT _ (⟨_, .ld _ _, none⟩ :: _) _ _ _ _; first | refine T.ld rfl rfl rfl rfl rfl ?_ | refine T.ldd rfl rfl ?_ | refine T.ldn rfl rfl rfl rfl (Nat.le_of_ble_eq_true rfl) ?_ | refine T.lddn rfl (Nat.le_of_ble_eq_true rfl) ?_)
          | (show WOpsT _ (⟨_, .idx _ _ _ _, none⟩ :: _) _ _ _ _; first | refine T.idx rfl rfl rfl ⟨rfl, rfl⟩ (by omega) ?_ | refine T.idxs rfl rfl rfl (by omega) rfl ?_ | refine T.idxa rfl rfl rfl rfl (by omega) ?_ | refine T.idxd rfl rfl (by omega) ?_)
          | (show WOpsT _ (⟨_, .bin _ _ _, none⟩ :: _) _ _ _ _; first | refine T.add rfl rfl (by omega) (by omega) ?_ | refine T.sub rfl rfl (by omega) (by omega) ?_ | refine T.mul rfl rfl (by omega) (by omega) ?_ | refine T.rem rfl rfl (by omega) ?_ | refine T.quo rfl rfl (by omega) ?_ | refine T.shl rfl rfl (by omega) ?_ | refine T.shr rfl rfl (by omega) ?_ | refine T.bin rfl rfl rfl ?_)
          | (show WOpsT _ (⟨_, _, some (_, true)⟩ :: _) _ _ _ _; first | refine T.goT rfl (by omega) ?_ | refine T.paT rfl (by omega) ?_ | refine T.go rfl rfl ?_ | refine T.pass rfl rfl ?_ | refine T.pU rfl ?_ | refine T.gT rfl (fun hgd => ?_) (fun hgd => ?_))
          | (show WOpsT _ (⟨_, _, some (_, false)⟩ :: _) _ _ _ _; first | refine T.goF rfl (by omega) ?_ | refine T.paF rfl (by omega) ?_ | refine T.go rfl rfl ?_ | refine T.pass rfl rfl ?_ | refine T.pU rfl ?_ | refine T.gF rfl (fun hgd => ?_) (fun hgd => ?_))
          | (show WOpsT _ (⟨_, .pick _ _ _, none⟩ :: _) _ _ _ _; first | refine T.pkT rfl (by omega) ?_ | refine T.pkF rfl (by omega) ?_ | refine T.pickT rfl rfl ?_ | refine T.pickF rfl rfl ?_ | refine T.pickB rfl rfl rfl ?_ | refine T.pkD rfl (fun hgd => ?_) (fun hgd => ?_))
          | (show AKW _ _ _ _ _ _ _; first | refine N.now ?_)
          | (show UK _ _ _ _ _ _ _ _; first | refine N.round ?_)
          | (show UC _ _ _ _ _ _ _ _; first | refine N.ucN ?_)
          | (show AK _ _ (.cond _ _ _) _ _ _ _; first | refine N.cT rfl (by omega) ?_ | refine N.cF rfl (by omega) ?_ | refine N.condT rfl rfl ?_ | refine N.condF rfl rfl ?_ | refine N.condD rfl (fun hcd => ?_) (fun hcd => ?_) | refine N.condB rfl (fun hcd => ?_) (fun hcd => ?_) | refine N.condU rfl ?_ ?_)
          | (show AK _ _ _ _ _ _ _; first | refine N.seq ?_ | refine N.block ?_ | refine N.skip ?_ | refine N.exit ?_ | refine N.ret ?_)
          | (show RK _ _ _ _ _ _ _; first | refine N.seqN ?_ | refine N.blkN ?_ | refine N.blkE rfl ?_ | refine N.blkX (by decide) ?_ | refine N.seqX ?_ | refine N.lpX ?_ | refine N.cuN ?_ | refine N.cuE rfl ?_ | refine N.cuX (by decide) ?_ | refine N.cuR ?_ | refine N.seqR ?_ | refine N.blkR ?_ | refine N.lpR ?_ | refine N.lpN ?_ | refine N.nil ?_)
          | (show WOpsT _ _ _ _ _ _; first | refine T.min2 rfl rfl rfl ?_ | refine T.max2 rfl rfl rfl ?_ | refine T.ext rfl rfl ?_ | refine T.lenc ?_ | refine T.eqnP rfl rfl ⟨rfl, by decide⟩ ?_ | refine T.eqnN rfl ?_ | refine T.eqnU rfl ?_ | refine T.lens rfl ?_ | refine T.i2s rfl ?_ | refine T.s2b rfl ?_ | refine T.slcs rfl rfl rfl (by omega) ?_ | refine T.capN rfl ?_ | refine T.slcN rfl rfl rfl ?_ | refine T.neg rfl ?_ | refine T.xorn rfl ?_ | refine T.notD rfl ?_ | refine T.not rfl ?_ | refine T.eqb0 rfl rfl ?_ | refine T.eqb1 rfl rfl ?_ | refine T.cvt rfl ?_ | refine T.fad rfl rfl rfl ?_ | refine T.fadd rfl ?_ | refine T.nilc rfl rfl rfl ?_ | refine T.nilcd rfl ?_ | refine T.nilcf rfl ?_ | refine T.nilci rfl ?_ | refine T.st rfl rfl rfl ⟨rfl, rfl⟩ rfl (Nat.le_of_ble_eq_true rfl) ?_ | refine T.fld rfl rfl ?_ | refine T.new rfl ⟨rfl, by decide⟩ ?_ | refine T.zero (by decide) ?_ | refine T.build rfl ?_ | refine T.len rfl rfl rfl ?_ | refine T.lenS rfl ?_ | refine T.lenN rfl ?_ | refine T.mkf ?_ | refine T.mki ?_ | refine T.mksl rfl rfl (by decide) ?_ | refine T.copy rfl rfl rfl ⟨rfl, rfl⟩ ?_ | refine T.ixa rfl rfl (by omega) rfl ?_ | refine T.bsl rfl (by decide) ?_ | refine T.slc rfl rfl rfl rfl ⟨rfl, rfl⟩ (by omega) ?_ | refine T.slcS rfl rfl rfl rfl (by omega) ?_)
          | refine hQ _ _ _ rfl ?_
          | refine hQN _ _ _ rfl ?_)
        exact hC2 _ _ (j + 1) (by omega) (by omega) (Weaks.sel (by repeat (first | exact trivial | refine ⟨.rfl, ?_⟩ | refine ⟨.any, ?_⟩)) rfl)
      · rw [if_neg hos] at hg2
        repeat' (first
          | refine T.idxs rfl rfl rfl (by omega) hg1 ?_
          | refine T.idxs rfl rfl rfl (by omega) hg2 ?_
          | refine T.ld rfl rfl rfl hg3 rfl ?_
          | refine T.ld rfl rfl rfl hg4 rfl ?_
          | rw [hw1]
          | rw [hw2]
          | refine N.regS fun K hK => ?_
          | refine N.dregS fun K hK => ?_
          | refine N.regN fun K hK => ?_
          | refine N.dregN fun K hK => ?_
          | simp only [T.mv, AO.ev, put, lk, enter, reduceIte, Nat.reduceEqDiff, Nat.reduceAdd, Nat.reduceMul, Nat.reduceSub, ren_c, ren_tup, ren_agg, ren_sl, List.map, Int.reduceNeg, Int.toNat_zero, Nat.zero_add, Nat.add_zero, List.length_cons, List.length_nil, List.nil_append, List.cons_append, List.set_cons_zero, List.set_cons_succ, Int.reduceToNat, List.take_zero, upto, ren_psl, ren_ptr, List.getElem?_cons_zero, List.getElem?_cons_succ, renB, cells_ren, bcells_ren, setAll, List.append_nil, List.take_succ_cons, List.drop_succ_cons, List.drop_zero, List.take_nil, List.drop_nil, List.map_cons, List.map_nil, decide_eq_true_eq, Bool.false_eq_true, true_iff, iff_true, false_iff, iff_false]
          | (refine T.nil ?_; (first | refine hK _ _ _ (by rfl) ?_ | refine hK _ _ _ ?_); simp only [keep, List.map, lk, reduceIte, Nat.reduceEqDiff, enter]; clear hK; clear K)
          | (show WOpsT _ (⟨_, .ld _ _, none⟩ :: _) _ _ _ _; first | refine T.ld rfl rfl rfl rfl rfl ?_ | refine T.ldd rfl rfl ?_ | refine T.ldn rfl rfl rfl rfl (Nat.le_of_ble_eq_true rfl) ?_ | refine T.lddn rfl (Nat.le_of_ble_eq_true rfl) ?_)
          | (show WOpsT _ (⟨_, .idx _ _ _ _, none⟩ :: _) _ _ _ _; first | refine T.idx rfl rfl rfl ⟨rfl, rfl⟩ (by omega) ?_ | refine T.idxs rfl rfl rfl (by omega) rfl ?_ | refine T.idxa rfl rfl rfl rfl (by omega) ?_ | refine T.idxd rfl rfl (by omega) ?_)
          | (show WOpsT _ (⟨_, .bin _ _ _, none⟩ :: _) _ _ _ _; first | refine T.add rfl rfl (by omega) (by omega) ?_ | refine T.sub rfl rfl (by omega) (by omega) ?_ | refine T.mul rfl rfl (by omega) (by omega) ?_ | refine T.rem rfl rfl (by omega) ?_ | refine T.quo rfl rfl (by omega) ?_ | refine T.shl rfl rfl (by omega) ?_ | refine T.shr rfl rfl (by omega) ?_ | refine T.bin rfl rfl rfl ?_)
          | (show WOpsT _ (⟨_, _, some (_, true)⟩ :: _) _ _ _ _; first | refine T.goT rfl (by omega) ?_ | refine T.paT rfl (by omega) ?_ | refine T.go rfl rfl ?_ | refine T.pass rfl rfl ?_ | refine T.pU rfl ?_ | refine T.gT rfl (fun hgd => ?_) (fun hgd => ?_))
          | (show WOpsT _ (⟨_, _, some (_, false)⟩ :: _) _ _ _ _; first | refine T.goF rfl (by omega) ?_ | refine T.paF rfl (by omega) ?_ | refine T.go rfl rfl ?_ | refine T.pass rfl rfl ?_ | refine T.pU rfl ?_ | refine T.gF rfl (fun hgd => ?_) (fun hgd => ?_))
          | (show WOpsT _ (⟨_, .pick _ _ _, none⟩ :: _) _ _ _ _; first | refine T.pkT rfl (by omega) ?_ | refine T.pkF rfl (by omega) ?_ | refine T.pickT rfl rfl ?_ | refine T.pickF rfl rfl ?_ | refine T.pickB rfl rfl rfl ?_ | refine T.pkD rfl (fun hgd => ?_) (fun hgd => ?_))
          | (show AKW _ _ _ _ _ _ _; first | refine N.now ?_)
          | (show UK _ _ _ _ _ _ _ _; first | refine N.round ?_)
          | (show UC _ _ _ _ _ _ _ _; first | refine N.ucN ?_)
          | (show AK _ _ (.cond _ _ _) _ _ _ _; first | refine N.cT rfl (by omega) ?_ | refine N.cF rfl (by omega) ?_ | refine N.condT rfl rfl ?_ | refine N.condF rfl rfl ?_ | refine N.condD rfl (fun hcd => ?_) (fun hcd => ?_) | refine N.condB rfl (fun hcd => ?_) (fun hcd => ?_) | refine N.condU rfl ?_ ?_)
          | (show AK _ _ _ _ _ _ _; first | refine N.seq ?_ | refine N.block ?_ | refine N.skip ?_ | refine N.exit ?_ | refine N.ret ?_)
          | (show RK _ _ _ _ _ _ _; first | refine N.seqN ?_ | refine N.blkN ?_ | refine N.blkE rfl ?_ | refine N.blkX (by decide) ?_ | refine N.seqX ?_ | refine N.lpX ?_ | refine N.cuN ?_ | refine N.cuE rfl ?_ | refine N.cuX (by decide) ?_ | refine N.cuR ?_ | refine N.seqR ?_ | refine N.blkR ?_ | refine N.lpR ?_ | refine N.lpN ?_ | refine N.nil ?_)
          | (show WOpsT _ _ _ _ _ _; first | refine T.min2 rfl rfl rfl ?_ | refine T.max2 rfl rfl rfl ?_ | refine T.ext rfl rfl ?_ | refine T.lenc ?_ | refine T.eqnP rfl rfl ⟨rfl, by decide⟩ ?_ | refine T.eqnN rfl ?_ | refine T.eqnU rfl ?_ | refine T.lens rfl ?_ | refine T.i2s rfl ?_ | refine T.s2b rfl ?_ | refine T.slcs rfl rfl rfl (by omega) ?_ | refine T.capN rfl ?_ | refine T.slcN rfl rfl rfl ?_ | refine T.neg rfl ?_ | refine T.xorn rfl ?_ | refine T.notD rfl ?_ | refine T.not rfl ?_ | refine T.eqb0 rfl rfl ?_ | refine T.eqb1 rfl rfl ?_ | refine T.cvt rfl ?_ | refine T.fad rfl rfl rfl ?_ | refine T.fadd rfl ?_ | refine T.nilc rfl rfl rfl ?_ | refine T.nilcd rfl ?_ | refine T.nilcf rfl ?_ | refine T.nilci rfl ?_ | refine T.st rfl rfl rfl ⟨rfl, rfl⟩ rfl (Nat.le_of_ble_eq_true rfl) ?_ | refine T.fld rfl rfl ?_ | refine T.new rfl ⟨rfl, by decide⟩ ?_ | refine T.zero (by decide) ?_ | refine T.build rfl ?_ | refine T.len rfl rfl rfl ?_ | refine T.lenS rfl ?_ | refine T.lenN rfl ?_ | refine T.mkf ?_ | refine T.mki ?_ | refine T.mksl rfl rfl (by decide) ?_ | refine T.copy rfl rfl rfl ⟨rfl, rfl⟩ ?_ | refine T.ixa rfl rfl (by omega) rfl ?_ | refine T.bsl rfl (by decide) ?_ | refine T.slc rfl rfl rfl rfl ⟨rfl, rfl⟩ (by omega) ?_ | refine T.slcS rfl rfl rfl rfl (by omega) ?_)
          | refine hQ _ _ _ rfl ?_
          | refine hQN _ _ _ rfl ?_)
        exact hC2 _ _ (j + 1) (by omega) (by omega) (Weaks.sel (by repeat (first | exact trivial | refine ⟨.rfl, ?_⟩ | refine ⟨.any, ?_⟩)) rfl)
    · obtain rfl : j = 16 := by omega
      repeat' (first
        | refine N.regS fun K hK => ?_
        | refine N.dregS fun K hK => ?_
        | refine N.regN fun K hK => ?_
        | refine N.dregN fun K hK => ?_
        | simp only [T.mv, AO.ev, put, lk, enter, reduceIte, Nat.reduceEqDiff, Nat.reduceAdd, Nat.reduceMul, Nat.reduceSub, ren_c, ren_tup, ren_agg, ren_sl, List.map, Int.reduceNeg, Int.toNat_zero, Nat.zero_add, Nat.add_zero, List.length_cons, List.length_nil, List.nil_append, List.cons_append, List.set_cons_zero, List.set_cons_succ, Int.reduceToNat, List.take_zero, upto, ren_psl, ren_ptr, List.getElem?_cons_zero, List.getElem?_cons_succ, renB, cells_ren, bcells_ren, setAll, List.append_nil, List.take_succ_cons, List.drop_succ_cons, List.drop_zero, List.take_nil, List.drop_nil, List.map_cons, List.map_nil, decide_eq_true_eq, Bool.false_eq_true, true_iff, iff_true, false_iff, iff_false]
        | (refine T.nil ?_; (first | refine hK _ _ _ (by rfl) ?_ | refine hK _ _ _ ?_); simp only [keep, List.map, lk, reduceIte, Nat.reduceEqDiff, enter]; clear hK; clear K)
        | (show WOpsT _ (⟨_, .call _ _, none⟩ :: _) _ _ _ _; first | refine T.call0 e51 rfl (drives_ok) ?_)
        | (show WOpsT _ (⟨_, .ld _ _, none⟩ :: _) _ _ _ _; first | refine T.ld rfl rfl rfl rfl rfl ?_ | refine T.ldd rfl rfl ?_ | refine T.ldn rfl rfl rfl rfl (Nat.le_of_ble_eq_true rfl) ?_ | refine T.lddn rfl (Nat.le_of_ble_eq_true rfl) ?_)
        | (show WOpsT _ (⟨_, .idx _ _ _ _, none⟩ :: _) _ _ _ _; first | refine T.idx rfl rfl rfl ⟨rfl, rfl⟩ (by omega) ?_ | refine T.idxs rfl rfl rfl (by omega) rfl ?_ | refine T.idxa rfl rfl rfl rfl (by omega) ?_ | refine T.idxd rfl rfl (by omega) ?_)
        | (show WOpsT _ (⟨_, .bin _ _ _, none⟩ :: _) _ _ _ _; first | refine T.add rfl rfl (by omega) (by omega) ?_ | refine T.sub rfl rfl (by omega) (by omega) ?_ | refine T.mul rfl rfl (by omega) (by omega) ?_ | refine T.rem rfl rfl (by omega) ?_ | refine T.quo rfl rfl (by omega) ?_ | refine T.shl rfl rfl (by omega) ?_ | refine T.shr rfl rfl (by omega) ?_ | refine T.bin rfl rfl rfl ?_)
        | (show WOpsT _ (⟨_, _, some (_, true)⟩ :: _) _ _ _ _; first | refine T.goT rfl (by omega) ?_ | refine T.paT rfl (by omega) ?_ | refine T.go rfl rfl ?_ | refine T.pass rfl rfl ?_ | refine T.pU rfl ?_ | refine T.gT rfl (fun hgd => ?_) (fun hgd => ?_))
        | (show WOpsT _ (⟨_, _, some (_, false)⟩ :: _) _ _ _ _; first | refine T.goF rfl (by omega) ?_ | refine T.paF rfl (by omega) ?_ | refine T.go rfl rfl ?_ | refine T.pass rfl rfl ?_ | refine T.pU rfl ?_ | refine T.gF rfl (fun hgd => ?_) (fun hgd => ?_))
        | (show WOpsT _ (⟨_, .pick _ _ _, none⟩ :: _) _ _ _ _; first | refine T.pkT rfl (by omega) ?_ | refine T.pkF rfl (by omega) ?_ | refine T.pickT rfl rfl ?_ | refine T.pickF rfl rfl ?_ | refine T.pickB rfl rfl rfl ?_ | refine T.pkD rfl (fun hgd => ?_) (fun hgd => ?_))
        | (show AKW _ _ _ _ _ _ _; first | refine N.now ?_)
        | (show UK _ _ _ _ _ _ _ _; first | refine N.round ?_)
        | (show UC _ _ _ _ _ _ _ _; first | refine N.ucN ?_)
        | (show AK _ _ (.cond _ _ _) _ _ _ _; first | refine N.cT rfl (by omega) ?_ | refine N.cF rfl (by omega) ?_ | refine N.condT rfl rfl ?_ | refine N.condF rfl rfl ?_ | refine N.condD rfl (fun hcd => ?_) (fun hcd => ?_) | refine N.condB rfl (fun hcd => ?_) (fun hcd => ?_) | refine N.condU rfl ?_ ?_)
        | (show AK _ _ _ _ _ _ _; first | refine N.seq ?_ | refine N.block ?_ | refine N.skip ?_ | refine N.exit ?_ | refine N.ret ?_)
        | (show RK _ _ _ _ _ _ _; first | refine N.seqN ?_ | refine N.blkN ?_ | refine N.blkE rfl ?_ | refine N.blkX (by decide) ?_ | refine N.seqX ?_ | refine N.lpX ?_ | refine N.cuN ?_ | refine N.cuE rfl ?_ | refine N.cuX (by decide) ?_ | refine N.cuR ?_ | refine N.seqR ?_ | refine N.blkR ?_ | refine N.lpR ?_ | refine N.lpN ?_ | refine N.nil ?_)
        | (show WOpsT _ _ _ _ _ _; first | refine T.min2 rfl rfl rfl ?_ | refine T.max2 rfl rfl rfl ?_ | refine T.ext rfl rfl ?_ | refine T.lenc ?_ | refine T.eqnP rfl rfl ⟨rfl, by decide⟩ ?_ | refine T.eqnN rfl ?_ | refine T.eqnU rfl ?_ | refine T.lens rfl ?_ | refine T.i2s rfl ?_ | refine T.s2b rfl ?_ | refine T.slcs rfl rfl rfl (by omega) ?_ | refine T.capN rfl ?_ | refine T.slcN rfl rfl rfl ?_ | refine T.neg rfl ?_ | refine T.xorn rfl ?_ | refine T.notD rfl ?_ | refine T.not rfl ?_ | refine T.eqb0 rfl rfl ?_ | refine T.eqb1 rfl rfl ?_ | refine T.cvt rfl ?_ | refine T.fad rfl rfl rfl ?_ | refine T.fadd rfl ?_ | refine T.nilc rfl rfl rfl ?_ | refine T.nilcd rfl ?_ | refine T.nilcf rfl ?_ | refine T.nilci rfl ?_ | refine T.st rfl rfl rfl ⟨rfl, rfl⟩ rfl (Nat.le_of_ble_eq_true rfl) ?_ | refine T.fld rfl rfl ?_ | refine T.new rfl ⟨rfl, by decide⟩ ?_ | refine T.zero (by decide) ?_ | refine T.build rfl ?_ | refine T.len rfl rfl rfl ?_ | refine T.lenS rfl ?_ | refine T.lenN rfl ?_ | refine T.mkf ?_ | refine T.mki ?_ | refine T.mksl rfl rfl (by decide) ?_ | refine T.copy rfl rfl rfl ⟨rfl, rfl⟩ ?_ | refine T.ixa rfl rfl (by omega) rfl ?_ | refine T.bsl rfl (by decide) ?_ | refine T.slc rfl rfl rfl rfl ⟨rfl, rfl⟩ (by omega) ?_ | refine T.slcS rfl rfl rfl rfl (by omega) ?_)
        | refine hQ _ _ _ rfl ?_
        | refine hQN _ _ _ rfl ?_)
      exact WS.c rfl rfl
end Go.Proofs.Ytjmmompbmjhkpaa.Calc
