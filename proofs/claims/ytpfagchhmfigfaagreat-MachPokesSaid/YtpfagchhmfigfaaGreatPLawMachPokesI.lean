/- Several texts in one (FnMem, FnTimer, FnSerial, FnVideo, FnVideoB, PureSound, FnSound, FnSoundB, FnDriveC, FnDevs), for the proof of LawMachPokes. No condition beyond those in each lemma. -/
import Derived.Test.YtpfagchhmfigfaaGreatPLawMachPokesH
import Derived.Test.YtpfagchhmfigfaaGreatPLawMachPokesD
import Derived.Test.YtpfagchhmfigfaaGreatPLawMachPokesE
import Derived.Test.YtpfagchhmfigfaaGreatPLawMachPokesG
import Derived.RowKit
namespace Go.Proofs.YtpfagchhmfigfaaGreat.Calc
open Go Code
set_option linter.unusedSimpArgs false
set_option linter.unusedVariables false
set_option maxRecDepth 20000
set_option maxHeartbeats 4000000
attribute [local irreducible] WOpsT AW AK RK AKW UK UC
def cR (nm : ByteArray) (k b s : Int) (d : List Int) : List V := [.c (.string nm), I k, I b, I s, .sl 1 (bcells d)]
theorem Sub.devR (m : List Int) : Sub (.agg [.c (.slice none 0 0), .sl 1 (bcells m)]) (dev [] m) := by
  refine .agg (Eq.refl _) fun i x y hx hy => ?_
  match i with
  | 0 => cases hx; cases hy; exact .nil
  | 1 => cases hx; cases hy; exact .rfl
  | i + 2 => cases hx
theorem WS.devR {h : List Blk} {b v len : Nat} {m : List Int} (h1 : h[b]? = some ⟨v, 1, bcells m⟩) (hl : m.length ≤ len) : WeakS 0 (.agg [.c (.slice none 0 0), .psl b v 0 len]) h (dev [] m) [] :=
  WS.gc [] 1 rfl rfl (by rw [out_agg]; simp only [List.map]; rw [out_bytes h1 hl]; exact Sub.devR m)
theorem WS.devRt {h : List Blk} {b v len : Nat} {m : List Int} {x : Value} (h1 : h[b]? = some ⟨v, 1, bcells m⟩) (hl : m.length ≤ len) : WeakS 0 (.tup [.agg [.c (.slice none 0 0), .psl b v 0 len], .c x]) h (.tup [dev [] m, .c x]) [] :=
  WS.gc [] 1 rfl rfl (by rw [out_tup]; simp only [List.map]; rw [out_agg]; simp only [List.map]; rw [out_bytes h1 hl]; exact Sub.tup2 (Sub.devR m) .rfl)
theorem cpy_full (z m : List Int) (h : m.length = z.length) : cpy z m 0 = m := by
  rw [cpy_eq z m 0 (by omega), List.take_zero, List.nil_append, Nat.zero_add, List.drop_of_length_le (by omega), List.append_nil]
theorem wrapU8 (d : Int) : IntKind.wrap .u8 (d % 2 ^ 8) = d % 256 := by
  rw [show (2 : Int) ^ 8 = 256 by decide]; exact wrap_u8 _ ⟨by omega, by omega⟩
section
variable (nm : ByteArray) (b : Int) (d : List Int)
theorem bytes_m (k : Int) (s : Nat) (hk : k = 0 ∨ k = 1) (hs : s ≤ 4096) : FnE Tryz.prog 113 [.agg (cR nm k b s d)] [] (I s) [] := by
  have e : max (0 : Int) (min (s : Int) 65536) = s := by omega
  rcases hk with rfl | rfl
  all_goals
    refine N.fn Tryz.func113 k113 lb q113 fun Q hQ hQN => ?_
    rw [c113]
    repeat' (first
    | exact True.intro
    | refine fun (K : KT) hK => ?_
    | intro hcd
    | (refine go1 ?_ ?_ <;> try clear hK K)
    | fail)
    exact WS.c rfl (by rw [e])
theorem new_m (k : Int) (s : Nat) (hk : k = 0 ∨ k = 1) (hs : s ≤ 4096) (hd : d.length ≤ s) : FnE Tryz.prog 58 [.agg (cR nm k b s d)] [] (dev [] (cpy (List.replicate s 0) d 0)) [] := by
  have hb := bytes_m nm b d k s hk hs
  have e : ((s : Nat) : Int).toNat = s := by omega
  rcases hk with rfl | rfl
  all_goals
    refine N.fn Tryz.func58 k58 lb q58 fun Q hQ hQN => ?_
    rw [c58]
    repeat' (first
    | (show WOpsT _ (⟨_, .mksl _ _ _ _, none⟩ :: _) _ _ _ _; refine T.mksl rfl rfl ⟨by decide, by decide, by omega, by omega, by omega⟩ ?_)
    | rw [e]
    | rw [zerosB]
    | refine T.copyB rfl rfl rfl ⟨hd, by rw [List.length_replicate]; omega⟩ ?_
    | refine T.call0 e113 rfl (hb) ?_
    | exact True.intro
    | refine fun (K : KT) hK => ?_
    | intro hcd
    | (refine go1 ?_ ?_ <;> try clear hK K)
    | fail)
    exact WS.devR rfl (by rw [cpy_len, List.length_replicate]; exact Nat.le_refl _)
theorem fit_m (k : Int) (s : Nat) (hk : k = 0 ∨ k = 1) (hs : s ≤ 4096) (m : List Int) (hm : m.length = s) : FnE Tryz.prog 80 [.agg (cR nm k b s d), dev [] m] [] (.agg [.c (.slice none 0 0), .psl 0 1 0 s]) [⟨1, 1, bcells m⟩] := by
  have hb := bytes_m nm b d k s hk hs
  have e : ((s : Nat) : Int).toNat = s := by omega
  have ec : cpy (List.replicate s 0) m 0 = m := cpy_full _ _ (by rw [List.length_replicate]; exact hm)
  rcases hk with rfl | rfl
  all_goals
    refine N.fn Tryz.func80 k80 lb q80 fun Q hQ hQN => ?_
    rw [c80]
    repeat' (first
    | (show WOpsT _ (⟨_, .mksl _ _ _ _, none⟩ :: _) _ _ _ _; refine T.mksl rfl rfl ⟨by decide, by decide, by omega, by omega, by omega⟩ ?_)
    | rw [e]
    | rw [zerosB]
    | refine T.copyB (ys := m) rfl rfl rfl ⟨by omega, by rw [List.length_replicate]; omega⟩ ?_
    | rw [ec]
    | refine T.call0 e113 rfl (hb) ?_
    | exact True.intro
    | refine fun (K : KT) hK => ?_
    | intro hcd
    | (refine go1 ?_ ?_ <;> try clear hK K)
    | fail)
    exact WS.gc [3] 0 rfl (by show [_] = [outB _ _ _ ⟨1, 1, bcells m⟩]; rw [outB_bytes]) .rfl
theorem place_m (k : Int) (s : Nat) (hk : k = 0 ∨ k = 1) (m : List Int) (hm : m.length = s) (a : Int) (ha : 0 ≤ a ∧ a < s) : FnE Tryz.prog 202 [.agg (cR nm k b s d), .agg [.c (.slice none 0 0), .psl 0 1 0 s], I a] [⟨1, 1, bcells m⟩] (I a) [⟨1, 1, bcells m⟩] := by
  rcases hk with rfl | rfl
  all_goals
    refine N.fn Tryz.func202 k202 lb q202 fun Q hQ hQN => ?_
    rw [c202]
    repeat' (first
    | exact True.intro
    | refine fun (K : KT) hK => ?_
    | intro hcd
    | (refine go1 ?_ ?_ <;> try clear hK K)
    | fail)
    all_goals first
      | exact WS.gc [0] 0 rfl (by first | rfl | (symm; unfold outH; simp only [List.map]; (repeat' (first | rfl | exact outB_bytes | exact outB_ints | exact outB_flat | refine consE ?_ ?_)); done)) .rfl
      | (exfalso; omega)
theorem read_m (k : Int) (s : Nat) (hk : k = 0 ∨ k = 1) (hs : s ≤ 4096) (m : List Int) (hm : m.length = s) (hb : Bytes m) (a : Int) (ha : 0 ≤ a ∧ a < s) : FnE Tryz.prog 134 [.agg (cR nm k b s d), dev [] m, I a] [] (.tup [dev [] m, I (m.getD a.toNat 0)]) [] := by
  have hf := fit_m nm b d k s hk hs m hm
  have hp := place_m nm b d k s hk m hm a ha
  have hl : a.toNat < m.length := by omega
  have hr := bget (m := m) hl
  have hb := hb a.toNat
  generalize m.getD a.toNat 0 = v at *
  have hw : IntKind.wrap .i64 v = v := wrap64 (by omega) (by omega)
  rcases hk with rfl | rfl
  all_goals
    refine N.fn Tryz.func134 k134 lb q134 fun Q hQ hQN => ?_
    rw [c134]
    repeat' (first
    | (show WOpsT _ (⟨_, .ld _ _, none⟩ :: _) _ _ _ _; refine T.ld rfl rfl rfl hr rfl ?_)
    | rw [hw]
    | (show WOpsT _ (⟨_, .call _ _, none⟩ :: _) _ _ _ _; first | refine T.callN e80 rfl (hf) (by simp) ?_ | refine T.cP [3] e202 (hp) ?_)
    | exact True.intro
    | refine fun (K : KT) hK => ?_
    | intro hcd
    | (refine go1 ?_ ?_ <;> try clear hK K)
    | fail)
    exact WS.devRt (m := m) rfl (by omega)
theorem write_m0 (s : Nat) (hs : s ≤ 4096) (m : List Int) (hm : m.length = s) (a : Int) (ha : 0 ≤ a ∧ a < s) (v : Int) : FnE Tryz.prog 127 [.agg (cR nm 0 b s d), dev [] m, I a, I v] [] (dev [] (m.set a.toNat (v % 256))) [] := by
  have hf := fit_m nm b d 0 s (.inl rfl) hs m hm
  have hp := place_m nm b d 0 s (.inl rfl) m hm a ha
  have hl : a.toNat < m.length := by omega
  have hr := bget (m := m) hl
  have hlo := low_lit v 8 8 rfl (by decide)
  have hw := wrapU8 v
  refine N.fn Tryz.func127 k127 lb q127 fun Q hQ hQN => ?_
  rw [c127]
  repeat' (first
  | rw [hw]
  | (show WOpsT _ (⟨_, .st _ _ _, none⟩ :: _) _ _ _ _; refine T.st rfl rfl rfl ⟨rfl, rfl⟩ hr lb ?_)
  | rw [bsetv]
  | (show WOpsT _ (⟨_, .call _ _, none⟩ :: _) _ _ _ _; first | refine T.callN e80 rfl (hf) (by simp) ?_ | refine T.cP [3] e202 (hp) ?_ | refine T.call0 e77 rfl (hlo) ?_)
  | exact True.intro
  | refine fun (K : KT) hK => ?_
  | intro hcd
  | (refine go1 ?_ ?_ <;> try clear hK K)
  | fail)
  exact WS.devR (m := m.set a.toNat (v % 256)) rfl (by rw [List.length_set]; omega)
theorem write_m1 (s : Nat) (hs : s ≤ 4096) (m : List Int) (hm : m.length = s) (a : Int) (ha : 0 ≤ a ∧ a < s) (v : Int) : FnE Tryz.prog 127 [.agg (cR nm 1 b s d), dev [] m, I a, I v] [] (dev [] m) [] := by
  have hf := fit_m nm b d 1 s (.inr rfl) hs m hm
  have hp := place_m nm b d 1 s (.inr rfl) m hm a ha
  refine N.fn Tryz.func127 k127 lb q127 fun Q hQ hQN => ?_
  rw [c127]
  repeat' (first
  | (show WOpsT _ (⟨_, .call _ _, none⟩ :: _) _ _ _ _; first | refine T.callN e80 rfl (hf) (by simp) ?_ | refine T.cP [3] e202 (hp) ?_)
  | exact True.intro
  | refine fun (K : KT) hK => ?_
  | intro hcd
  | (refine go1 ?_ ?_ <;> try clear hK K)
  | fail)
  exact WS.devR (m := m) rfl (by omega)
theorem window_k : FnE Tryz.prog 195 [.agg (cR nm 2 b 9 d)] [] (I 8) [] := by
  refine N.fn Tryz.func195 k195 lb q195 fun Q hQ hQN => ?_
  rw [c195]
  repeat' (first
  | exact True.intro
  | refine fun (K : KT) hK => ?_
  | intro hcd
  | (refine go1 ?_ ?_ <;> try clear hK K)
  | fail)
  exact WS.c rfl rfl
theorem banks_k (nb : Nat) (h1 : 1 ≤ nb ∧ nb ≤ 3) (hd : d.length = 8 * nb) : FnE Tryz.prog 141 [.agg (cR nm 2 b 9 d)] [] (I nb) [] := by
  have hw := window_k nm b d
  have e0 : ((bcells d).length : Int) = 8 * nb := by rw [bcells_len, hd]; omega
  have e1 : IntKind.wrap .i64 ((8 * (nb : Int) + 8 - 1).tdiv 8) = nb := by
    rw [Int.tdiv_eq_ediv_of_nonneg (by omega), show (8 * (nb : Int) + 8 - 1) / 8 = nb by omega]; exact wrap64 (by omega) (by omega)
  have e2 : max (1 : Int) nb = nb := by omega
  refine N.fn Tryz.func141 k141 lb q141 fun Q hQ hQN => ?_
  rw [c141]
  repeat' (first
  | rw [e0]
  | rw [e1]
  | refine T.call0 e195 rfl (hw) ?_
  | exact True.intro
  | refine fun (K : KT) hK => ?_
  | intro hcd
  | (refine go1 ?_ ?_ <;> try clear hK K)
  | fail)
  exact WS.c rfl (by rw [e2])
theorem bytes_k (nb : Nat) (h1 : 1 ≤ nb ∧ nb ≤ 3) (hd : d.length = 8 * nb) : FnE Tryz.prog 113 [.agg (cR nm 2 b 9 d)] [] (I ((nb : Int) * 8)) [] := by
  have hw := window_k nm b d
  have hb := banks_k nm b d nb h1 hd
  refine N.fn Tryz.func113 k113 lb q113 fun Q hQ hQN => ?_
  rw [c113]
  repeat' (first
  | (show WOpsT _ (⟨_, .call _ _, none⟩ :: _) _ _ _ _; first | refine T.call0 e195 rfl (hw) ?_ | refine T.call0 e141 rfl (hb) ?_)
  | exact True.intro
  | refine fun (K : KT) hK => ?_
  | intro hcd
  | (refine go1 ?_ ?_ <;> try clear hK K)
  | fail)
  exact WS.c rfl rfl
theorem new_k (nb : Nat) (h1 : 1 ≤ nb ∧ nb ≤ 3) (hd : d.length = 8 * nb) : FnE Tryz.prog 58 [.agg (cR nm 2 b 9 d)] [] (dev [0] d) [] := by
  have hb := bytes_k nm b d nb h1 hd
  have e : ((nb : Int) * 8).toNat = d.length := by omega
  have ec : cpy (List.replicate d.length 0) d 0 = d := cpy_full _ _ (by rw [List.length_replicate])
  refine N.fn Tryz.func58 k58 lb q58 fun Q hQ hQN => ?_
  rw [c58]
  repeat' (first
  | (show WOpsT _ (⟨_, .mksl _ _ _ _, none⟩ :: _) _ _ _ _; refine T.mksl rfl rfl ⟨by decide, by decide, by omega, by omega, by omega⟩ ?_)
  | rw [e]
  | rw [zerosB]
  | refine T.copyB (ys := d) rfl rfl rfl ⟨Nat.le_refl _, by rw [List.length_replicate]; omega⟩ ?_
  | rw [ec]
  | refine T.call0 e113 rfl (hb) ?_
  | exact True.intro
  | refine fun (K : KT) hK => ?_
  | intro hcd
  | (refine go1 ?_ ?_ <;> try clear hK K)
  | fail)
  exact WS.dev2 (n := [0]) (m := d) rfl rfl lb rfl (Nat.le_refl _)
theorem fit_k (nb : Nat) (h1 : 1 ≤ nb ∧ nb ≤ 3) (hd : d.length = 8 * nb) (n : Int) (hn : 0 ≤ n ∧ n < nb) (m : List Int) (hm : m.length = 8 * nb) : FnE Tryz.prog 80 [.agg (cR nm 2 b 9 d), dev [n] m] [] (.agg [.psl 0 1 0 1, .psl 1 1 0 m.length]) [⟨1, 1, cells [n]⟩, ⟨1, 1, bcells m⟩] := by
  have hb := bytes_k nm b d nb h1 hd
  have hk := banks_k nm b d nb h1 hd
  have e : ((nb : Int) * 8).toNat = m.length := by omega
  have ec : cpy (List.replicate m.length 0) m 0 = m := cpy_full _ _ (by rw [List.length_replicate])
  have t1 : n.tmod nb = n := by rw [Int.tmod_eq_emod_of_nonneg hn.1, Int.emod_eq_of_lt hn.1 hn.2]
  have t2 : (n + nb).tmod nb = n := by rw [Int.tmod_eq_emod_of_nonneg (by omega), Int.add_emod_right, Int.emod_eq_of_lt hn.1 hn.2]
  refine N.fn Tryz.func80 k80 lb q80 fun Q hQ hQN => ?_
  rw [c80]
  repeat' (first
  | (show WOpsT _ (⟨_, .mksl _ _ _ _, none⟩ :: _) _ _ _ _; refine T.mksl rfl rfl ⟨by decide, by decide, by omega, by omega, by omega⟩ ?_)
  | rw [e]
  | rw [zerosB]
  | refine T.copyB (ys := m) rfl rfl rfl ⟨Nat.le_refl _, by rw [List.length_replicate]; omega⟩ ?_
  | rw [ec]
  | rw [t1]
  | rw [t2]
  | (show WOpsT _ (⟨_, .call _ _, none⟩ :: _) _ _ _ _; first | refine T.call0 e113 rfl (hb) ?_ | refine T.call0 e141 rfl (hk) ?_)
  | exact True.intro
  | refine fun (K : KT) hK => ?_
  | intro hcd
  | (refine go1 ?_ ?_ <;> try clear hK K)
  | fail)
  exact WS.gc [5, 3] 0 rfl (by show [_, _] = [_, outB _ _ _ ⟨1, 1, bcells m⟩]; rw [outB_bytes]; rfl) .rfl
theorem place_k (n : Int) (m : List Int) (hn : 0 ≤ n ∧ n < 3) (a : Int) (ha : 0 ≤ a ∧ a < 9) : FnE Tryz.prog 202 [.agg (cR nm 2 b 9 d), .agg [.psl 0 1 0 1, .psl 1 1 0 m.length], I a] [⟨1, 1, cells [n]⟩, ⟨1, 1, bcells m⟩] (I (if a = 0 then -1 else n * 8 + a - 1)) [⟨1, 1, cells [n]⟩, ⟨1, 1, bcells m⟩] := by
  have hw := window_k nm b d
  by_cases h0 : a = 0
  · rw [if_pos h0]; subst h0
    refine N.fn Tryz.func202 k202 lb q202 fun Q hQ hQN => ?_
    rw [c202]
    repeat' (first
    | refine T.call0 e195 rfl (hw) ?_
    | exact True.intro
    | refine fun (K : KT) hK => ?_
    | intro hcd
    | (refine go1 ?_ ?_ <;> try clear hK K)
    | fail)
    exact WS.gc [0, 1] 0 rfl (by first | rfl | (symm; unfold outH; simp only [List.map]; (repeat' (first | rfl | exact outB_bytes | exact outB_ints | exact outB_flat | refine consE ?_ ?_)); done)) .rfl
  · rw [if_neg h0]
    refine N.fn Tryz.func202 k202 lb q202 fun Q hQ hQN => ?_
    rw [c202]
    repeat' (first
    | refine T.call0 e195 rfl (hw) ?_
    | exact True.intro
    | refine fun (K : KT) hK => ?_
    | intro hcd
    | (refine go1 ?_ ?_ <;> try clear hK K)
    | fail)
    all_goals first
      | exact WS.gc [0, 1] 0 rfl (by first | rfl | (symm; unfold outH; simp only [List.map]; (repeat' (first | rfl | exact outB_bytes | exact outB_ints | exact outB_flat | refine consE ?_ ?_)); done)) .rfl
      | (exfalso; omega)
def rdK (n : Int) (m : List Int) (a : Int) : Int := if a = 0 then n else m.getD (n * 8 + a - 1).toNat 0
theorem write_k (nb : Nat) (h1 : 1 ≤ nb ∧ nb ≤ 3) (hd : d.length = 8 * nb) (n : Int) (hn : 0 ≤ n ∧ n < nb) (m : List Int) (hm : m.length = 8 * nb) (a : Int) (ha : 0 ≤ a ∧ a < 9) (v : Int) : FnE Tryz.prog 127 [.agg (cR nm 2 b 9 d), dev [n] m, I a, I v] [] (if a = 0 then dev [v % 256 % nb] m else dev [n] (m.set (n * 8 + a - 1).toNat (v % 256))) [] := by
  have hf := fit_k nm b d nb h1 hd n hn m hm
  have hk := banks_k nm b d nb h1 hd
  have hp := place_k nm b d n m (by omega) a ha
  have hlo := low_lit v 8 8 rfl (by decide)
  have hw := wrapU8 v
  by_cases h0 : a = 0
  · rw [if_pos h0] at hp ⊢; subst h0
    have t : (v % 2 ^ 8).tmod nb = v % 256 % nb := by rw [Int.tmod_eq_emod_of_nonneg (by omega)]; rfl
    refine N.fn Tryz.func127 k127 lb q127 fun Q hQ hQN => ?_
    rw [c127]
    repeat' (first
    | rw [t]
    | (show WOpsT _ (⟨_, .call _ _, none⟩ :: _) _ _ _ _; first | refine T.callN e80 rfl (hf) (by simp) ?_ | refine T.cP [3, 4] e202 (hp) ?_ | refine T.call0 e77 rfl (hlo) ?_ | refine T.call0 e141 rfl (hk) ?_)
    | exact True.intro
    | refine fun (K : KT) hK => ?_
    | intro hcd
    | (refine go1 ?_ ?_ <;> try clear hK K)
    | fail)
    exact WS.dev2 (n := [v % 256 % nb]) (m := m) rfl rfl lb rfl (Nat.le_refl _)
  · rw [if_neg h0] at hp ⊢
    have hl : (n * 8 + a - 1).toNat < m.length := by omega
    have hr := bget (m := m) hl
    refine N.fn Tryz.func127 k127 lb q127 fun Q hQ hQN => ?_
    rw [c127]
    repeat' (first
    | rw [hw]
    | (show WOpsT _ (⟨_, .st _ _ _, none⟩ :: _) _ _ _ _; refine T.st rfl rfl rfl ⟨rfl, rfl⟩ hr lb ?_)
    | rw [bsetv]
    | (show WOpsT _ (⟨_, .call _ _, none⟩ :: _) _ _ _ _; first | refine T.callN e80 rfl (hf) (by simp) ?_ | refine T.cP [3, 4] e202 (hp) ?_ | refine T.call0 e77 rfl (hlo) ?_)
    | exact True.intro
    | refine fun (K : KT) hK => ?_
    | intro hcd
    | (refine go1 ?_ ?_ <;> try clear hK K)
    | fail)
    exact WS.dev2 (n := [n]) (m := m.set (n * 8 + a - 1).toNat (v % 256)) rfl rfl lb rfl (by rw [List.length_set]; exact Nat.le_refl _)
end
end Go.Proofs.YtpfagchhmfigfaaGreat.Calc

namespace Go.Proofs.YtpfagchhmfigfaaGreat.Calc
open Go Code
set_option linter.unusedSimpArgs false
set_option linter.unusedVariables false
set_option maxRecDepth 20000
attribute [local irreducible] WOpsT AW AK RK AKW
theorem timfit_ok (a b c f : Int) (m : List Int) : FnE Tryz.prog 142 [dev [a, b, c, f] m] [] (.psl 0 1 0 4) [⟨1, 1, cells [a % 2 ^ 16, b % 2 ^ 16, c % 2 ^ 3, f % 2 ^ 1]⟩] := by
  refine N.fn Tryz.func142 k142 lb q142 fun Q hQ hQN => ?_
  rw [c142]
  repeat' (first
  | (show WOpsT _ (⟨_, .call _ _, none⟩ :: _) _ _ _ _; first | refine T.call0 e77 rfl (low_lit _ 16 16 rfl (by decide)) ?_ | refine T.call0 e77 rfl (low_lit _ 3 3 rfl (by decide)) ?_ | refine T.call0 e77 rfl (low_lit _ 1 1 rfl (by decide)) ?_)
  | exact True.intro
  | refine fun (K : KT) hK => ?_
  | intro hcd
  | (refine go1 ?_ ?_ <;> try clear hK K)
  | fail)
  exact WS.keep1 rfl rfl
abbrev TimOk (a b c f : Int) : Prop := 0 ≤ a ∧ a < 65536 ∧ 0 ≤ b ∧ b < 65536 ∧ 0 ≤ c ∧ c < 8 ∧ 0 ≤ f ∧ f < 2
theorem timfit (a b c f : Int) (m : List Int) (h : TimOk a b c f) : FnE Tryz.prog 142 [dev [a, b, c, f] m] [] (.psl 0 1 0 4) [⟨1, 1, cells [a, b, c, f]⟩] := by
  have := timfit_ok a b c f m
  rwa [show a % 2 ^ 16 = a by omega, show b % 2 ^ 16 = b by omega, show c % 2 ^ 3 = c by omega, show f % 2 ^ 1 = f by omega] at this
theorem timnew_ok : FnE Tryz.prog 114 [] [] (dev [0, 0, 0, 0] []) [] := by
  refine N.fn Tryz.func114 k114 lb q114 fun Q hQ hQN => ?_
  rw [c114]
  repeat' (first
  | exact True.intro
  | refine fun (K : KT) hK => ?_
  | intro hcd
  | (refine go1 ?_ ?_ <;> try clear hK K)
  | fail)
  exact WS.devN (m := 1) rfl rfl
def skip4 (a b c f s : Int) : List Int :=
  if s ≤ 0 then [a, b, c, f] else if c % 2 = 0 then [a, b, c, f] else if s ≤ a then [a - s, b, c, f]
  else if c / 2 % 2 = 1 then [b - (s - a - 1) % (b + 1), b, c, 1] else [0, b, c - c % 2, 1]
theorem timw0_ok (a b c f v : Int) (m : List Int) (h : TimOk a b c f) : FnE Tryz.prog 128 [dev [a, b, c, f] m, I 0, I v] [] (dev [a, putv b 0 8 v, c, f] []) [] := by
  refine N.fn Tryz.func128 k128 lb q128 fun Q hQ hQN => ?_
  rw [c128]
  repeat' (first
  | (show WOpsT _ (⟨_, .call _ _, none⟩ :: _) _ _ _ _; first | refine T.callN e142 rfl (timfit _ _ _ _ _ h) (by simp) ?_ | refine T.call0 e203 rfl (put_ok _ _ 0 8 (by decide)) ?_)
  | exact True.intro
  | refine fun (K : KT) hK => ?_
  | intro hcd
  | (refine go1 ?_ ?_ <;> try clear hK K)
  | fail)
  exact WS.devN (m := 1) rfl rfl
theorem timw1_ok (a b c f v : Int) (m : List Int) (h : TimOk a b c f) : FnE Tryz.prog 128 [dev [a, b, c, f] m, I 1, I v] [] (dev [a, putv b 8 8 v, c, f] []) [] := by
  refine N.fn Tryz.func128 k128 lb q128 fun Q hQ hQN => ?_
  rw [c128]
  repeat' (first
  | (show WOpsT _ (⟨_, .call _ _, none⟩ :: _) _ _ _ _; first | refine T.callN e142 rfl (timfit _ _ _ _ _ h) (by simp) ?_ | refine T.call0 e203 rfl (put_ok _ _ 8 8 (by decide)) ?_)
  | exact True.intro
  | refine fun (K : KT) hK => ?_
  | intro hcd
  | (refine go1 ?_ ?_ <;> try clear hK K)
  | fail)
  exact WS.devN (m := 1) rfl rfl
theorem timw2_ok (a b c f v : Int) (m : List Int) (h : TimOk a b c f) : FnE Tryz.prog 128 [dev [a, b, c, f] m, I 2, I v] [] (dev [if bits .and .i64 v 128 ≠ 0 then b else a, b, v % 2 ^ 3, f] []) [] := by
  refine N.fn Tryz.func128 k128 lb q128 fun Q hQ hQN => ?_
  rw [c128]
  repeat' (first
  | (show WOpsT _ (⟨_, .call _ _, none⟩ :: _) _ _ _ _; first | refine T.callN e142 rfl (timfit _ _ _ _ _ h) (by simp) ?_ | refine T.call0 e77 rfl (low_lit _ 3 3 rfl (by decide)) ?_)
  | exact True.intro
  | refine fun (K : KT) hK => ?_
  | intro hcd
  | (refine go1 ?_ ?_ <;> try clear hK K)
  | fail)
  all_goals (refine WS.devN (m := 1) rfl ?_; (repeat' split) <;> first | rfl | (exfalso; simp_all; done))
end Go.Proofs.YtpfagchhmfigfaaGreat.Calc

namespace Go.Proofs.YtpfagchhmfigfaaGreat.Calc
open Go Code
set_option linter.unusedSimpArgs false
set_option linter.unusedVariables false
set_option maxRecDepth 20000
set_option maxHeartbeats 2000000
attribute [local irreducible] WOpsT AW AK RK AKW
abbrev SerOk (s l g f o c n z : Int) : Prop := (0 ≤ s ∧ s < 256) ∧ (0 ≤ l ∧ l < 64) ∧ (0 ≤ g ∧ g < 256) ∧ (0 ≤ f ∧ f < 2) ∧ (0 ≤ o ∧ o < 2) ∧ (0 ≤ c ∧ c < 4) ∧ (0 ≤ n ∧ n < 1048576) ∧ (0 ≤ z ∧ z < 256)
theorem serfit (s l g f o c n z : Int) (m : List Int) (h : SerOk s l g f o c n z) : FnE Tryz.prog 144 [dev [s, l, g, f, o, c, n, z] m] [] (.psl 0 1 0 8) [⟨1, 1, cells [s, l, g, f, o, c, n, z]⟩] := by
  refine N.fn Tryz.func144 k144 lb q144 fun Q hQ hQN => ?_
  rw [c144]
  repeat' (first
  | (show AK _ _ (.loop _) _ _ _ _; refine N.unroll 9 ?_)
  | (show WOpsT _ (⟨_, .call _ _, none⟩ :: _) _ _ _ _; first | refine T.call0 e77 rfl (low_in _ 8 8 rfl (by decide) (by omega)) ?_ | refine T.call0 e77 rfl (low_in _ 6 6 rfl (by decide) (by omega)) ?_ | refine T.call0 e77 rfl (low_in _ 1 1 rfl (by decide) (by omega)) ?_ | refine T.call0 e77 rfl (low_in _ 2 2 rfl (by decide) (by omega)) ?_ | refine T.call0 e77 rfl (low_in _ 20 20 rfl (by decide) (by omega)) ?_)
  | exact True.intro
  | refine fun (K : KT) hK => ?_
  | intro hcd
  | (refine go1 ?_ ?_ <;> try clear hK K)
  | fail)
  exact WS.keep1 rfl rfl
theorem sernew_ok : FnE Tryz.prog 116 [] [] (dev [0, 0, 0, 0, 0, 0, 0, 0] []) [] := by
  refine N.fn Tryz.func116 k116 lb q116 fun Q hQ hQN => ?_
  rw [c116]
  repeat' (first
  | exact True.intro
  | refine fun (K : KT) hK => ?_
  | intro hcd
  | (refine go1 ?_ ?_ <;> try clear hK K)
  | fail)
  exact WS.devN (m := 1) rfl rfl
theorem serw0_ok (s l g f o c n z v : Int) (m : List Int) (h : SerOk s l g f o c n z) : FnE Tryz.prog 130 [dev [s, l, g, f, o, c, n, z] m, I 0, I v] [] (dev (if l = 0 then [v % 2 ^ 8, 40, g, f, o, c, n, z] else [s, l, g, f, o, c, n, z]) []) [] := by
  refine N.fn Tryz.func130 k130 lb q130 fun Q hQ hQN => ?_
  rw [c130]
  repeat' (first
  | (show WOpsT _ (⟨_, .call _ _, none⟩ :: _) _ _ _ _; first | refine T.callN e144 rfl (serfit _ _ _ _ _ _ _ _ _ h) (by simp) ?_ | refine T.call0 e77 rfl (low_lit _ 8 8 rfl (by decide)) ?_)
  | exact True.intro
  | refine fun (K : KT) hK => ?_
  | intro hcd
  | (refine go1 ?_ ?_ <;> try clear hK K)
  | fail)
  · refine WS.devN (m := 1) rfl ?_; rw [if_pos (by assumption)]; rfl
  · refine WS.devN (m := 1) rfl ?_; rw [if_neg (by assumption)]; rfl
theorem serw2_ok (s l g f o c n z v : Int) (m : List Int) (h : SerOk s l g f o c n z) : FnE Tryz.prog 130 [dev [s, l, g, f, o, c, n, z] m, I 2, I v] [] (dev [s, l, g, f, o, v % 2 ^ 2, n, z] []) [] := by
  refine N.fn Tryz.func130 k130 lb q130 fun Q hQ hQN => ?_
  rw [c130]
  repeat' (first
  | (show WOpsT _ (⟨_, .call _ _, none⟩ :: _) _ _ _ _; first | refine T.callN e144 rfl (serfit _ _ _ _ _ _ _ _ _ h) (by simp) ?_ | refine T.call0 e77 rfl (low_lit _ 2 2 rfl (by decide)) ?_)
  | exact True.intro
  | refine fun (K : KT) hK => ?_
  | intro hcd
  | (refine go1 ?_ ?_ <;> try clear hK K)
  | fail)
  exact WS.devN (m := 1) rfl rfl
def serSkip (s l g f o c n z k : Int) : List Int := if k ≤ 0 ∨ l = 0 then [s, l, g, f, o, c, n, z] else if k < l then [s, l - k, g, f, o, c, n, z] else [s, 0, g, f, o, c, (n + 1) % 2 ^ 20, s]
end Go.Proofs.YtpfagchhmfigfaaGreat.Calc

namespace Go.Proofs.YtpfagchhmfigfaaGreat.Calc
open Go Code
set_option linter.unusedSimpArgs false
set_option linter.unusedVariables false
set_option maxRecDepth 20000
set_option maxHeartbeats 4000000
attribute [local irreducible] WOpsT AW AK RK AKW UK UC
theorem tmod_pos (a b : Int) (h : 0 ≤ a) : a.tmod b = a % b := Int.tmod_eq_emod_of_nonneg h
theorem vidfit (p h : Int) (m : List Int) (hp : 0 ≤ p ∧ p < 2560) (hh : 0 ≤ h ∧ h < 2) (hm : m.length = 32) : FnE Tryz.prog 145 [dev [p, h] m] [] (.tup [I p, I h, .psl 0 1 0 32]) [memB m] := by
  refine N.fn Tryz.func145 k145 lb q145 fun Q hQ hQN => ?_
  rw [c145]
  have e1 : p.tmod 2560 = p := by rw [tmod_pos _ _ hp.1]; omega
  have e2 : (p + 2560).tmod 2560 = p := by rw [tmod_pos _ _ (by omega)]; omega
  have e3 : List.take 32 (bcells m) ++ List.drop (min (bcells m).length 32) (List.replicate 32 [V.c (.int .u8 0)]) = bcells m := by
    rw [bcells_len, hm, bcells_take, List.take_of_length_le (by omega)]; simp
  repeat' (first
  | rw [e1]
  | rw [e2]
  | refine T.call0 e77 rfl (low_in _ 1 1 rfl (by decide) (by omega)) ?_
  | exact True.intro
  | refine fun (K : KT) hK => ?_
  | intro hcd
  | (refine go1 ?_ ?_ <;> try clear hK K)
  | fail)
  rw [e3]
  exact WS.gc [1] 1 rfl (by simp [outH, outB, bcells_out]) .rfl
theorem vidmade (p h : Int) (m : List Int) : FnE Tryz.prog 147 [I p, I h, .psl 0 1 0 32] [memB m] (.agg [.psl 1 1 0 2, .psl 0 1 0 32]) [memB m, ⟨1, 1, cells [p, h]⟩] := by
  refine N.fn Tryz.func147 k147 lb q147 fun Q hQ hQN => ?_
  rw [c147]
  repeat' (first
  | exact True.intro
  | refine fun (K : KT) hK => ?_
  | intro hcd
  | (refine go1 ?_ ?_ <;> try clear hK K)
  | fail)
  exact WS.gc [0, 2] 1 rfl (by simp [outH, outB, bcells_out]; rfl) .rfl
theorem vidnew_ok : FnE Tryz.prog 117 [] [] (dev [2559, 0] (List.replicate 32 0)) [] := by
  refine N.fn Tryz.func117 k117 lb q117 fun Q hQ hQN => ?_
  rw [c117]
  repeat' (first
  | refine T.cP [1] e147 (vidmade _ _ (List.replicate 32 0)) ?_
  | exact True.intro
  | refine fun (K : KT) hK => ?_
  | intro hcd
  | (refine go1 ?_ ?_ <;> try clear hK K)
  | fail)
  exact WS.dev2 rfl rfl (by decide) rfl (by decide)
def vvis (p : Int) : Prop := p % 64 < 48 ∧ p / 64 < 32
instance (p : Int) : Decidable (vvis p) := by unfold vvis; exact inferInstance
def vcell (m : List Int) (p : Int) : Int := m.getD (8 + p / 64 / 8 * 6 + p % 64 / 8).toNat 0 % 16
def vspr (m : List Int) (p : Int) : Prop := 0 ≤ p % 64 - m.getD 1 0 ∧ p % 64 - m.getD 1 0 < 8 ∧ 0 ≤ p / 64 - m.getD 2 0 ∧ p / 64 - m.getD 2 0 < 8 ∧ m.getD 4 0 / 2 ^ (7 - (p % 64 - m.getD 1 0)).toNat % 2 = 1
instance (m : List Int) (p : Int) : Decidable (vspr m p) := by unfold vspr; exact inferInstance
def vcol (m : List Int) (p : Int) : Int := if ¬ vvis p then m.getD 0 0 % 16 else if vspr m p then m.getD 3 0 % 16 else vcell m p
def vhit (m : List Int) (p : Int) : Prop := vvis p ∧ vspr m p ∧ vcell m p ≠ 0
instance (m : List Int) (p : Int) : Decidable (vhit m p) := by unfold vhit; exact inferInstance
end Go.Proofs.YtpfagchhmfigfaaGreat.Calc

namespace Go.Proofs.YtpfagchhmfigfaaGreat.Calc
open Go Code
set_option linter.unusedSimpArgs false
set_option linter.unusedVariables false
set_option maxRecDepth 20000
set_option maxHeartbeats 4000000
attribute [local irreducible] WOpsT AW AK RK AKW UK UC
structure VidOk (p h : Int) (m : List Int) : Prop where
  pos : 0 ≤ p ∧ p < 2560
  hit : 0 ≤ h ∧ h < 2
  len : m.length = 32
  mem : Bytes m
def vpos (p : Int) (i : Nat) : Int := (p + i) % 2560
def vhitN (m : List Int) (p h : Int) : Nat → Int
  | 0 => h
  | i + 1 => if vhit m (vpos p (i + 1)) then 1 else vhitN m p h i
def vrounds (k : Int) : Nat := (if k > 5120 then 2560 + k % 2560 else k).toNat
def NextOf (m : List Int) (p n : Int) : Prop := (n = 100000 ∧ ∀ j : Nat, j < 2560 → vcol m (vpos p (j + 1)) = vcol m p) ∨ (0 ≤ n ∧ n < 2560 ∧ (∀ j : Nat, (j : Int) < n → vcol m (vpos p (j + 1)) = vcol m p) ∧ vcol m (vpos p (n.toNat + 1)) ≠ vcol m p)
theorem vidwrite_ok (p h a v : Int) (m : List Int) (H : VidOk p h m) : FnE Tryz.prog 131 [dev [p, h] m, I a, I v] [] (dev [p, h] (if 0 ≤ a ∧ a < 32 ∧ (a < 5 ∨ 7 < a) then m.set a.toNat (v % 2 ^ 8) else m)) [] := by
  refine N.fn Tryz.func131 k131 lb q131 fun Q hQ hQN => ?_
  rw [c131]
  have hl := H.len
  have hw : IntKind.wrap .u8 (v % 2 ^ 8) = v % 2 ^ 8 := by
    exact wrap_u8 _ (by omega)
  by_cases ha : 0 ≤ a ∧ a < 32 ∧ (a < 5 ∨ 7 < a)
  · have hg : (bcells m)[0 + a.toNat]? = some [.c (.int .u8 (m.getD (0 + a.toNat) 0))] := bget (by omega)
    have hset : (bcells m).set (0 + a.toNat) (spl [.c (.int .u8 (m.getD (0 + a.toNat) 0))] 0 [.c (.int .u8 (v % 2 ^ 8))]) = bcells (m.set a.toNat (v % 2 ^ 8)) := by
      rw [Nat.zero_add]; exact bcells_set m _ _
    rw [if_pos ha] at hQ
    repeat' (first
    | rw [hw]
    | (show WOpsT _ (⟨_, .st _ _ _, none⟩ :: _) _ _ _ _; refine T.st rfl rfl rfl ⟨rfl, rfl⟩ hg (Nat.le_of_ble_eq_true rfl) ?_)
    | rw [hset]
    | (show WOpsT _ (⟨_, .call _ _, none⟩ :: _) _ _ _ _; first | refine T.callN e145 rfl (vidfit p h m H.pos H.hit H.len) (by simp) ?_ | refine T.call0 e77 rfl (low_lit _ 8 8 rfl (by decide)) ?_ | refine T.cP [2] e147 (vidmade _ _ (m.set a.toNat (v % 2 ^ 8))) ?_)
    | exact True.intro
    | refine fun (K : KT) hK => ?_
    | intro hcd
    | (refine go1 ?_ ?_ <;> try clear hK K)
    | fail)
    all_goals exact WS.dev2 rfl rfl (Nat.le_refl _) rfl (by simp [hl])
  · rw [if_neg ha] at hQ
    repeat' (first
    | (show WOpsT _ (⟨_, .call _ _, none⟩ :: _) _ _ _ _; first | refine T.callN e145 rfl (vidfit p h m H.pos H.hit H.len) (by simp) ?_ | refine T.cP [2] e147 (vidmade _ _ m) ?_)
    | exact True.intro
    | refine fun (K : KT) hK => ?_
    | intro hcd
    | (refine go1 ?_ ?_ <;> try clear hK K)
    | fail)
    all_goals exact WS.dev2 rfl rfl (Nat.le_refl _) rfl (Nat.le_of_eq hl)
def vread (p h : Int) (m : List Int) (a : Int) : Int := if a = 5 then p / 64 else if a = 6 then p % 64 else if a = 7 then h else m.getD a.toNat 0
end Go.Proofs.YtpfagchhmfigfaaGreat.Calc

namespace Go.Proofs.YtpfagchhmfigfaaGreat.Calc
structure Vo where
  p : Int
  v : Int
  r : Int
  c : Int
  f : Int
  w : Int
def Vo.list (x : Vo) : List Int := [x.p, x.v, x.r, x.c, x.f, x.w]
def Vo.Ok (x : Vo) : Prop := (0 ≤ x.p ∧ x.p < 4096) ∧ (0 ≤ x.v ∧ x.v < 16) ∧ (0 ≤ x.r ∧ x.r < 256) ∧ (0 ≤ x.c ∧ x.c < 4096) ∧ (0 ≤ x.f ∧ x.f < 2) ∧ (0 ≤ x.w ∧ x.w < 16384)
def Vo.pass (x : Vo) (k : Int) : Vo where
  p := x.p
  v := if 0 < x.r ∧ 0 < x.v then (if x.r * 64 ≤ x.w + k then x.v - 1 else x.v) else x.v
  r := x.r
  c := if 0 < x.p then (if x.p ≤ x.c + k then 0 else x.c + k) else x.c
  f := if 0 < x.p then (if x.p ≤ x.c + k then 1 - x.f else x.f) else x.f
  w := if 0 < x.r ∧ 0 < x.v then (if x.r * 64 ≤ x.w + k then 0 else x.w + k) else x.w
def Vo.quiet (x : Vo) : Int :=
  let a := if 0 < x.p then min 100000 (max 1 (x.p - x.c) - 1) else 100000
  if 0 < x.r ∧ 0 < x.v then min a (max 1 (x.r * 64 - x.w) - 1) else a
def Vo.ticks : Nat → Vo → Vo
  | 0, x => x
  | n + 1, x => Vo.ticks n (x.pass 1)
theorem Vo.ticks_succ (n : Nat) : ∀ x : Vo, Vo.ticks (n + 1) x = (Vo.ticks n x).pass 1 := by
  induction n with
  | zero => intro x; rfl
  | succ n ih => intro x; rw [Vo.ticks, ih]; rfl
theorem Vo.turns (P v : Int) (hP : 0 < P ∧ P < 4096) (n : Nat) : Vo.ticks n ⟨P, v, 0, 0, 0, 0⟩ = ⟨P, v, 0, n % P, n / P % 2, 0⟩ := by
  induction n with
  | zero => simp [Vo.ticks]
  | succ n ih =>
    rw [Vo.ticks_succ, ih]
    unfold Vo.pass
    dsimp only
    have h1 := Int.emod_nonneg (n : Int) (show P ≠ 0 by omega)
    have h2 := Int.emod_lt_of_pos (n : Int) hP.1
    have h3 := Int.emod_add_mul_ediv (n : Int) P
    have h4 : ((n + 1 : Nat) : Int) = (n : Int) % P + 1 + P * ((n : Int) / P) := by omega
    by_cases h : P ≤ (n : Int) % P + 1
    · have e : ((n + 1 : Nat) : Int) = P * ((n : Int) / P + 1) := by rw [h4, Int.mul_add]; omega
      have d1 : ((n + 1 : Nat) : Int) % P = 0 := by rw [e]; exact Int.mul_emod_right _ _
      have d2 : ((n + 1 : Nat) : Int) / P = (n : Int) / P + 1 := by rw [e]; exact Int.mul_ediv_cancel_left _ (by omega)
      rw [d1, d2]
      simp only [if_pos hP.1, if_pos h]
      congr 1
      omega
    · have d1 : ((n + 1 : Nat) : Int) % P = (n : Int) % P + 1 := by
        rw [h4, Int.add_mul_emod_self_left]; exact Int.emod_eq_of_lt (by omega) (by omega)
      have d2 : ((n + 1 : Nat) : Int) / P = (n : Int) / P := by
        rw [h4, Int.add_mul_ediv_left _ _ (by omega), Int.ediv_eq_zero_of_lt (by omega) (by omega)]; omega
      rw [d1, d2]
      simp only [if_pos hP.1, if_neg h]
      rfl
theorem Vo.fades (R : Int) (hR : 0 < R ∧ R < 256) : ∀ (n : Nat) (v : Int), 0 ≤ v → (n : Int) ≤ 64 * R * v → Vo.ticks n ⟨0, v, R, 0, 0, 0⟩ = ⟨0, v - n / (64 * R), R, 0, 0, n % (64 * R)⟩ := by
  intro n v hv hn
  induction n with
  | zero => simp [Vo.ticks]
  | succ n ih =>
    rw [Vo.ticks_succ, ih (by omega)]
    unfold Vo.pass
    dsimp only
    obtain ⟨D, hD⟩ : ∃ D, 64 * R = D := ⟨_, rfl⟩
    have hD1 : 0 < D := by omega
    rw [hD] at hn ⊢
    have h1 := Int.emod_nonneg (n : Int) (show D ≠ 0 by omega)
    have h2 := Int.emod_lt_of_pos (n : Int) hD1
    have h3 := Int.emod_add_mul_ediv (n : Int) D
    have h4 : ((n + 1 : Nat) : Int) = (n : Int) % D + 1 + D * ((n : Int) / D) := by omega
    have hv1 : 0 < v - (n : Int) / D := by
      have : (n : Int) / D < v := Int.ediv_lt_of_lt_mul hD1 (by rw [Int.mul_comm]; omega)
      omega
    by_cases h : D ≤ (n : Int) % D + 1
    · have e : ((n + 1 : Nat) : Int) = D * ((n : Int) / D + 1) := by rw [h4, Int.mul_add]; omega
      have d1 : ((n + 1 : Nat) : Int) % D = 0 := by rw [e]; exact Int.mul_emod_right _ _
      have d2 : ((n + 1 : Nat) : Int) / D = (n : Int) / D + 1 := by rw [e]; exact Int.mul_ediv_cancel_left _ (by omega)
      rw [d1, d2]
      have q0 : ¬ ((0 : Int) < 0) := by decide
      have q1 : 0 < R ∧ 0 < v - (n : Int) / D := ⟨hR.1, hv1⟩
      have q2 : R * 64 ≤ (n : Int) % D + 1 := by omega
      simp only [if_neg q0, if_pos q1, if_pos q2]
      congr 1
      omega
    · have d1 : ((n + 1 : Nat) : Int) % D = (n : Int) % D + 1 := by
        rw [h4, Int.add_mul_emod_self_left]; exact Int.emod_eq_of_lt (by omega) (by omega)
      have d2 : ((n + 1 : Nat) : Int) / D = (n : Int) / D := by
        rw [h4, Int.add_mul_ediv_left _ _ (by omega), Int.ediv_eq_zero_of_lt (by omega) (by omega)]; omega
      rw [d1, d2]
      have q0 : ¬ ((0 : Int) < 0) := by decide
      have q1 : 0 < R ∧ 0 < v - (n : Int) / D := ⟨hR.1, hv1⟩
      have q2 : ¬ R * 64 ≤ (n : Int) % D + 1 := by omega
      simp only [if_neg q0, if_pos q1, if_neg q2]
end Go.Proofs.YtpfagchhmfigfaaGreat.Calc

namespace Go.Proofs.YtpfagchhmfigfaaGreat.Calc
open Go Code
set_option linter.unusedSimpArgs false
set_option linter.unusedVariables false
set_option maxRecDepth 20000
set_option maxHeartbeats 8000000
attribute [local irreducible] WOpsT AW AK RK AKW UK UC
abbrev vo2 (x y : Vo) : List Int := [x.p, x.v, x.r, x.c, x.f, x.w, y.p, y.v, y.r, y.c, y.f, y.w]
abbrev vo2B (x y : Vo) : Blk := ⟨1, 1, cells (vo2 x y)⟩
theorem sndfit (x y : Vo) (m : List Int) (hx : x.Ok) (hy : y.Ok) : FnE Tryz.prog 148 [dev (vo2 x y) m] [] (.psl 0 1 0 12) [vo2B x y] := by
  unfold Vo.Ok at hx hy
  refine N.fn Tryz.func148 k148 lb q148 fun Q hQ hQN => ?_
  rw [c148]
  repeat' (first
  | (show AK _ _ (.loop _) _ _ _ _; refine N.unroll 7 ?_)
  | (show WOpsT _ (⟨_, .call _ _, none⟩ :: _) _ _ _ _; first | refine T.call0 e77 rfl (low_in _ 12 12 rfl (by decide) (by omega)) ?_ | refine T.call0 e77 rfl (low_in _ 4 4 rfl (by decide) (by omega)) ?_ | refine T.call0 e77 rfl (low_in _ 8 8 rfl (by decide) (by omega)) ?_ | refine T.call0 e77 rfl (low_in _ 1 1 rfl (by decide) (by omega)) ?_ | refine T.call0 e77 rfl (low_in _ 14 14 rfl (by decide) (by omega)) ?_)
  | exact True.intro
  | refine fun (K : KT) hK => ?_
  | intro hcd
  | (refine go1 ?_ ?_ <;> try clear hK K)
  | fail)
  exact WS.gc [1] 1 rfl rfl .rfl
theorem sndnew_ok : FnE Tryz.prog 118 [] [] (dev [0, 0, 0, 0, 0, 0, 0, 0, 0, 0, 0, 0] []) [] := by
  refine N.fn Tryz.func118 k118 lb q118 fun Q hQ hQN => ?_
  rw [c118]
  repeat' (first
  | exact True.intro
  | refine fun (K : KT) hK => ?_
  | intro hcd
  | (refine go1 ?_ ?_ <;> try clear hK K)
  | fail)
  exact WS.devN (m := 1) rfl rfl
end Go.Proofs.YtpfagchhmfigfaaGreat.Calc

namespace Go.Proofs.YtpfagchhmfigfaaGreat.Calc
open Go Code
set_option linter.unusedSimpArgs false
set_option linter.unusedVariables false
set_option maxRecDepth 20000
set_option maxHeartbeats 8000000
attribute [local irreducible] WOpsT AW AK RK AKW UK UC
end Go.Proofs.YtpfagchhmfigfaaGreat.Calc

namespace Go.Proofs.YtpfagchhmfigfaaGreat.Calc
open Go Code
set_option linter.unusedSimpArgs false
set_option linter.unusedVariables false
set_option maxRecDepth 20000
set_option maxHeartbeats 8000000
attribute [local irreducible] WOpsT AW AK RK AKW UK UC
theorem drvw0 (a : Dr) (m : List Int) (nd : Nat) (k : Int) (H : a.Ok m nd) : FnE Tryz.prog 133 [dev (dr10 a) m, I 0, I k] [] (dev (dr10 (a.begin (k % 2 ^ 8))) m) [] := by
  refine N.fn Tryz.func133 k133 lb q133 fun Q hQ hQN => ?_
  rw [c133]
  repeat' (first
  | (show WOpsT _ (⟨_, .call _ _, none⟩ :: _) _ _ _ _; first | refine T.callN e151 rfl (drvfit a m nd H) (by simp) ?_ | refine T.call0 e77 rfl (low_lit _ 8 8 rfl (by decide)) ?_ | refine T.cP [2] e205 (drvbegin a (k % 2 ^ 8)) ?_)
  | exact True.intro
  | refine fun (K : KT) hK => ?_
  | intro hcd
  | (refine go1 ?_ ?_ <;> try clear hK K)
  | fail)
  exact WS.dev2 rfl rfl (Nat.le_refl _) rfl (Nat.le_refl _)
theorem drvw1 (a : Dr) (m : List Int) (nd : Nat) (k : Int) (H : a.Ok m nd) : FnE Tryz.prog 133 [dev (dr10 a) m, I 1, I k] [] (dev (dr10 { a with d := k % 2 ^ 8, r := if a.c = 4 then 0 else a.r }) m) [] := by
  refine N.fn Tryz.func133 k133 lb q133 fun Q hQ hQN => ?_
  rw [c133]
  repeat' (first
  | (show WOpsT _ (⟨_, .call _ _, none⟩ :: _) _ _ _ _; first | refine T.callN e151 rfl (drvfit a m nd H) (by simp) ?_ | refine T.call0 e77 rfl (low_lit _ 8 8 rfl (by decide)) ?_)
  | exact True.intro
  | refine fun (K : KT) hK => ?_
  | intro hcd
  | (refine go1 ?_ ?_ <;> try clear hK K)
  | fail)
  all_goals ((repeat' split) <;> first | (exfalso; omega) | exact WS.dev2 rfl rfl (Nat.le_refl _) rfl (Nat.le_refl _))
end Go.Proofs.YtpfagchhmfigfaaGreat.Calc

namespace Go.Proofs.YtpfagchhmfigfaaGreat.Calc
open Go Code
set_option linter.unusedSimpArgs false
set_option linter.unusedVariables false
set_option maxRecDepth 20000
set_option maxHeartbeats 4000000
attribute [local irreducible] WOpsT AW AK RK AKW UK UC
theorem putv_lo (b v : Int) (hb : 0 ≤ b ∧ b < 65536) (i n : Nat) (h : (i = 0 ∧ n = 8) ∨ (i = 8 ∧ n = 8)) : 0 ≤ putv b i n v ∧ putv b i n v < 65536 := by
  unfold putv
  rcases h with ⟨rfl, rfl⟩ | ⟨rfl, rfl⟩
  · rw [show (2 : Int) ^ 0 = 1 by decide, show (2 : Int) ^ 8 = 256 by decide, show (2 : Int) ^ 62 = 4611686018427387904 by decide]; omega
  · rw [show (2 : Int) ^ (8 + 8) = 65536 by decide, show (2 : Int) ^ 8 = 256 by decide, show (2 : Int) ^ 62 = 4611686018427387904 by decide]; omega
theorem timwr_ex (x y c f a v : Int) (h : TimOk x y c f) (ha : 0 ≤ a ∧ a < 4) : ∃ x' y' c', TimOk x' y' c' f ∧ FnE Tryz.prog 128 [dev [x, y, c, f] [], I a, I v] [] (dev [x', y', c', f] []) [] := by
  have p1 := putv_lo y v (by omega) 0 8 (by omega)
  have p2 := putv_lo y v (by omega) 8 8 (by omega)
  obtain rfl | rfl | rfl | rfl : a = 0 ∨ a = 1 ∨ a = 2 ∨ a = 3 := by omega
  · exact ⟨x, _, c, by omega, timw0_ok x y c f v [] h⟩
  · exact ⟨x, _, c, by omega, timw1_ok x y c f v [] h⟩
  · refine ⟨_, y, v % 2 ^ 3, ?_, timw2_ok x y c f v [] h⟩
    split <;> omega
  · refine ⟨x, y, c, h, ?_⟩
    refine N.fn Tryz.func128 k128 lb q128 fun Q hQ hQN => ?_
    rw [c128]
    repeat' (first
    | refine T.callN e142 rfl (timfit _ _ _ _ _ h) (by simp) ?_
    | exact True.intro
    | refine fun (K : KT) hK => ?_
    | intro hcd
    | (refine go1 ?_ ?_ <;> try clear hK K)
    | fail)
    exact WS.devN (m := 1) rfl rfl
abbrev PortOk (a b c : Int) : Prop := (0 ≤ a ∧ a < 256) ∧ (0 ≤ b ∧ b < 256) ∧ (0 ≤ c ∧ c < 256)
theorem prtfit (a b c : Int) (m : List Int) (h : PortOk a b c) : FnE Tryz.prog 143 [dev [a, b, c] m] [] (.psl 0 1 0 3) [⟨1, 1, cells [a, b, c]⟩] := by
  refine N.fn Tryz.func143 k143 lb q143 fun Q hQ hQN => ?_
  rw [c143]
  repeat' (first
  | (show AK _ _ (.loop _) _ _ _ _; refine N.unroll 4 ?_)
  | refine T.call0 e77 rfl (low_in _ 8 8 rfl (by decide) (by omega)) ?_
  | exact True.intro
  | refine fun (K : KT) hK => ?_
  | intro hcd
  | (refine go1 ?_ ?_ <;> try clear hK K)
  | fail)
  exact WS.keep1 rfl rfl
theorem prtnew_ok : FnE Tryz.prog 115 [] [] (dev [255, 0, 0] []) [] := by
  refine N.fn Tryz.func115 k115 lb q115 fun Q hQ hQN => ?_
  rw [c115]
  repeat' (first
  | exact True.intro
  | refine fun (K : KT) hK => ?_
  | intro hcd
  | (refine go1 ?_ ?_ <;> try clear hK K)
  | fail)
  exact WS.devN (m := 1) rfl rfl
theorem prtwr_ex (a b c x v : Int) (h : PortOk a b c) (hx : 0 ≤ x ∧ x < 2) : ∃ b' c', PortOk a b' c' ∧ FnE Tryz.prog 129 [dev [a, b, c] [], I x, I v] [] (dev [a, b', c'] []) [] := by
  obtain rfl | rfl : x = 0 ∨ x = 1 := by omega
  · refine ⟨v % 2 ^ 8, c, by omega, ?_⟩
    refine N.fn Tryz.func129 k129 lb q129 fun Q hQ hQN => ?_
    rw [c129]
    repeat' (first
    | (show WOpsT _ (⟨_, .call _ _, none⟩ :: _) _ _ _ _; first | refine T.callN e143 rfl (prtfit a b c [] h) (by simp) ?_ | refine T.call0 e77 rfl (low_lit _ 8 8 rfl (by decide)) ?_)
    | exact True.intro
    | refine fun (K : KT) hK => ?_
    | intro hcd
    | (refine go1 ?_ ?_ <;> try clear hK K)
    | fail)
    exact WS.devN (m := 1) rfl rfl
  · refine ⟨b, v % 2 ^ 8, by omega, ?_⟩
    refine N.fn Tryz.func129 k129 lb q129 fun Q hQ hQN => ?_
    rw [c129]
    repeat' (first
    | (show WOpsT _ (⟨_, .call _ _, none⟩ :: _) _ _ _ _; first | refine T.callN e143 rfl (prtfit a b c [] h) (by simp) ?_ | refine T.call0 e77 rfl (low_lit _ 8 8 rfl (by decide)) ?_)
    | exact True.intro
    | refine fun (K : KT) hK => ?_
    | intro hcd
    | (refine go1 ?_ ?_ <;> try clear hK K)
    | fail)
    exact WS.devN (m := 1) rfl rfl
theorem serwr_ex (s l g f o c n z a v : Int) (h : SerOk s l g f o c n z) (ha : 0 ≤ a ∧ a < 3) : ∃ s' l' c', SerOk s' l' g f o c' n z ∧ FnE Tryz.prog 130 [dev [s, l, g, f, o, c, n, z] [], I a, I v] [] (dev [s', l', g, f, o, c', n, z] []) [] := by
  obtain rfl | rfl | rfl : a = 0 ∨ a = 1 ∨ a = 2 := by omega
  · have := serw0_ok s l g f o c n z v [] h
    by_cases hl : l = 0
    · rw [if_pos hl] at this
      exact ⟨_, _, _, by omega, this⟩
    · rw [if_neg hl] at this
      exact ⟨_, _, _, h, this⟩
  · refine ⟨s, l, c, h, ?_⟩
    refine N.fn Tryz.func130 k130 lb q130 fun Q hQ hQN => ?_
    rw [c130]
    repeat' (first
    | refine T.callN e144 rfl (serfit _ _ _ _ _ _ _ _ _ h) (by simp) ?_
    | exact True.intro
    | refine fun (K : KT) hK => ?_
    | intro hcd
    | (refine go1 ?_ ?_ <;> try clear hK K)
    | fail)
    all_goals first
      | (exfalso; omega)
      | exact WS.devN (m := 1) rfl rfl
  · exact ⟨s, l, v % 2 ^ 2, by omega, serw2_ok s l g f o c n z v [] h⟩
theorem voice_g (x y : Vo) (a : Int) (ha : 0 ≤ a ∧ a < 4) : FnE Tryz.prog 204 [.psl 0 1 0 12, I a] [vo2B x y] (.psl 0 1 0 6) [vo2B x y] := by
  refine N.fn Tryz.func204 k204 lb q204 fun Q hQ hQN => ?_
  rw [c204]
  have e : IntKind.wrap .i64 (a.tdiv 4) = 0 := by
    rw [Int.tdiv_eq_ediv_of_nonneg ha.1, show a / 4 = 0 by omega]; rfl
  repeat' (first
  | rw [e]
  | exact True.intro
  | refine fun (K : KT) hK => ?_
  | intro hcd
  | (refine go1 ?_ ?_ <;> try clear hK K)
  | fail)
  exact WS.gc [0] 1 rfl rfl .rfl
theorem voice_h (x y : Vo) (a : Int) (ha : 4 ≤ a ∧ a < 8) : FnE Tryz.prog 204 [.psl 0 1 0 12, I a] [vo2B x y] (.psl 0 1 6 6) [vo2B x y] := by
  refine N.fn Tryz.func204 k204 lb q204 fun Q hQ hQN => ?_
  rw [c204]
  have e : IntKind.wrap .i64 (a.tdiv 4) = 1 := by
    rw [Int.tdiv_eq_ediv_of_nonneg (by omega), show a / 4 = 1 by omega]; rfl
  repeat' (first
  | rw [e]
  | exact True.intro
  | refine fun (K : KT) hK => ?_
  | intro hcd
  | (refine go1 ?_ ?_ <;> try clear hK K)
  | fail)
  exact WS.gc [0] 1 rfl rfl .rfl
theorem putv12 (b v : Int) (hb : 0 ≤ b ∧ b < 4096) : (0 ≤ putv b 0 8 v ∧ putv b 0 8 v < 4096) ∧ (0 ≤ putv b 8 4 v ∧ putv b 8 4 v < 4096) := by
  unfold putv
  constructor
  · rw [show (2 : Int) ^ 0 = 1 by decide, show (2 : Int) ^ 8 = 256 by decide, show (2 : Int) ^ 62 = 4611686018427387904 by decide]; omega
  · rw [show (2 : Int) ^ (8 + 4) = 4096 by decide, show (2 : Int) ^ 8 = 256 by decide, show (2 : Int) ^ 4 = 16 by decide, show (2 : Int) ^ 62 = 4611686018427387904 by decide]; omega
theorem sndwr_ex (x y : Vo) (hx : x.Ok) (hy : y.Ok) (a v : Int) (ha : 0 ≤ a ∧ a < 8) : ∃ x' y' : Vo, x'.Ok ∧ y'.Ok ∧ FnE Tryz.prog 132 [dev (vo2 x y) [], I a, I v] [] (dev (vo2 x' y') []) [] := by
  have hf := sndfit x y [] hx hy
  have px := putv12 x.p v hx.1
  have py := putv12 y.p v hy.1
  obtain rfl | rfl | rfl | rfl | rfl | rfl | rfl | rfl : a = 0 ∨ a = 1 ∨ a = 2 ∨ a = 3 ∨ a = 4 ∨ a = 5 ∨ a = 6 ∨ a = 7 := by omega
  · refine ⟨{ x with p := putv x.p 0 8 v }, y, (by unfold Vo.Ok at hx ⊢; dsimp only; omega), hy, ?_⟩
    refine N.fn Tryz.func132 k132 lb q132 fun Q hQ hQN => ?_
    rw [c132]
    repeat' (first
    | rw [show Int.tmod 0 4 = 0 by decide]
    | (show WOpsT _ (⟨_, .call _ _, none⟩ :: _) _ _ _ _; first | refine T.callN e148 rfl (hf) (by simp) ?_ | refine T.cP [2] e204 (voice_g x y 0 (by decide)) ?_ | refine T.call0 e203 rfl (put_ok _ _ 0 8 (by decide)) ?_)
    | exact True.intro
    | refine fun (K : KT) hK => ?_
    | intro hcd
    | (refine go1 ?_ ?_ <;> try clear hK K)
    | fail)
    exact WS.devN (m := 1) rfl rfl
  · refine ⟨{ x with p := putv x.p 8 4 v }, y, (by unfold Vo.Ok at hx ⊢; dsimp only; omega), hy, ?_⟩
    refine N.fn Tryz.func132 k132 lb q132 fun Q hQ hQN => ?_
    rw [c132]
    repeat' (first
    | rw [show Int.tmod 1 4 = 1 by decide]
    | (show WOpsT _ (⟨_, .call _ _, none⟩ :: _) _ _ _ _; first | refine T.callN e148 rfl (hf) (by simp) ?_ | refine T.cP [2] e204 (voice_g x y 1 (by decide)) ?_ | refine T.call0 e203 rfl (put_ok _ _ 8 4 (by decide)) ?_)
    | exact True.intro
    | refine fun (K : KT) hK => ?_
    | intro hcd
    | (refine go1 ?_ ?_ <;> try clear hK K)
    | fail)
    exact WS.devN (m := 1) rfl rfl
  · refine ⟨{ x with v := v % 2 ^ 4, w := 0 }, y, (by unfold Vo.Ok at hx ⊢; dsimp only; omega), hy, ?_⟩
    refine N.fn Tryz.func132 k132 lb q132 fun Q hQ hQN => ?_
    rw [c132]
    repeat' (first
    | rw [show Int.tmod 2 4 = 2 by decide]
    | (show WOpsT _ (⟨_, .call _ _, none⟩ :: _) _ _ _ _; first | refine T.callN e148 rfl (hf) (by simp) ?_ | refine T.cP [2] e204 (voice_g x y 2 (by decide)) ?_ | refine T.call0 e77 rfl (low_lit _ 4 4 rfl (by decide)) ?_)
    | exact True.intro
    | refine fun (K : KT) hK => ?_
    | intro hcd
    | (refine go1 ?_ ?_ <;> try clear hK K)
    | fail)
    exact WS.devN (m := 1) rfl rfl
  · refine ⟨{ x with r := v % 2 ^ 8 }, y, (by unfold Vo.Ok at hx ⊢; dsimp only; omega), hy, ?_⟩
    refine N.fn Tryz.func132 k132 lb q132 fun Q hQ hQN => ?_
    rw [c132]
    repeat' (first
    | rw [show Int.tmod 3 4 = 3 by decide]
    | (show WOpsT _ (⟨_, .call _ _, none⟩ :: _) _ _ _ _; first | refine T.callN e148 rfl (hf) (by simp) ?_ | refine T.cP [2] e204 (voice_g x y 3 (by decide)) ?_ | refine T.call0 e77 rfl (low_lit _ 8 8 rfl (by decide)) ?_)
    | exact True.intro
    | refine fun (K : KT) hK => ?_
    | intro hcd
    | (refine go1 ?_ ?_ <;> try clear hK K)
    | fail)
    exact WS.devN (m := 1) rfl rfl
  · refine ⟨x, { y with p := putv y.p 0 8 v }, hx, (by unfold Vo.Ok at hy ⊢; dsimp only; omega), ?_⟩
    refine N.fn Tryz.func132 k132 lb q132 fun Q hQ hQN => ?_
    rw [c132]
    repeat' (first
    | rw [show Int.tmod 4 4 = 0 by decide]
    | (show WOpsT _ (⟨_, .call _ _, none⟩ :: _) _ _ _ _; first | refine T.callN e148 rfl (hf) (by simp) ?_ | refine T.cP [2] e204 (voice_h x y 4 (by decide)) ?_ | refine T.call0 e203 rfl (put_ok _ _ 0 8 (by decide)) ?_)
    | exact True.intro
    | refine fun (K : KT) hK => ?_
    | intro hcd
    | (refine go1 ?_ ?_ <;> try clear hK K)
    | fail)
    exact WS.devN (m := 1) rfl rfl
  · refine ⟨x, { y with p := putv y.p 8 4 v }, hx, (by unfold Vo.Ok at hy ⊢; dsimp only; omega), ?_⟩
    refine N.fn Tryz.func132 k132 lb q132 fun Q hQ hQN => ?_
    rw [c132]
    repeat' (first
    | rw [show Int.tmod 5 4 = 1 by decide]
    | (show WOpsT _ (⟨_, .call _ _, none⟩ :: _) _ _ _ _; first | refine T.callN e148 rfl (hf) (by simp) ?_ | refine T.cP [2] e204 (voice_h x y 5 (by decide)) ?_ | refine T.call0 e203 rfl (put_ok _ _ 8 4 (by decide)) ?_)
    | exact True.intro
    | refine fun (K : KT) hK => ?_
    | intro hcd
    | (refine go1 ?_ ?_ <;> try clear hK K)
    | fail)
    exact WS.devN (m := 1) rfl rfl
  · refine ⟨x, { y with v := v % 2 ^ 4, w := 0 }, hx, (by unfold Vo.Ok at hy ⊢; dsimp only; omega), ?_⟩
    refine N.fn Tryz.func132 k132 lb q132 fun Q hQ hQN => ?_
    rw [c132]
    repeat' (first
    | rw [show Int.tmod 6 4 = 2 by decide]
    | (show WOpsT _ (⟨_, .call _ _, none⟩ :: _) _ _ _ _; first | refine T.callN e148 rfl (hf) (by simp) ?_ | refine T.cP [2] e204 (voice_h x y 6 (by decide)) ?_ | refine T.call0 e77 rfl (low_lit _ 4 4 rfl (by decide)) ?_)
    | exact True.intro
    | refine fun (K : KT) hK => ?_
    | intro hcd
    | (refine go1 ?_ ?_ <;> try clear hK K)
    | fail)
    exact WS.devN (m := 1) rfl rfl
  · refine ⟨x, { y with r := v % 2 ^ 8 }, hx, (by unfold Vo.Ok at hy ⊢; dsimp only; omega), ?_⟩
    refine N.fn Tryz.func132 k132 lb q132 fun Q hQ hQN => ?_
    rw [c132]
    repeat' (first
    | rw [show Int.tmod 7 4 = 3 by decide]
    | (show WOpsT _ (⟨_, .call _ _, none⟩ :: _) _ _ _ _; first | refine T.callN e148 rfl (hf) (by simp) ?_ | refine T.cP [2] e204 (voice_h x y 7 (by decide)) ?_ | refine T.call0 e77 rfl (low_lit _ 8 8 rfl (by decide)) ?_)
    | exact True.intro
    | refine fun (K : KT) hK => ?_
    | intro hcd
    | (refine go1 ?_ ?_ <;> try clear hK K)
    | fail)
    exact WS.devN (m := 1) rfl rfl
theorem drvw2 (a : Dr) (m : List Int) (nd : Nat) (k : Int) (H : a.Ok m nd) : FnE Tryz.prog 133 [dev (dr10 a) m, I 2, I k] [] (dev (dr10 a) m) [] := by
  refine N.fn Tryz.func133 k133 lb q133 fun Q hQ hQN => ?_
  rw [c133]
  repeat' (first
  | refine T.callN e151 rfl (drvfit a m nd H) (by simp) ?_
  | exact True.intro
  | refine fun (K : KT) hK => ?_
  | intro hcd
  | (refine go1 ?_ ?_ <;> try clear hK K)
  | fail)
  exact WS.dev2 rfl rfl (Nat.le_refl _) rfl (Nat.le_refl _)
theorem drvw3 (a : Dr) (m : List Int) (nd : Nat) (k : Int) (H : a.Ok m nd) : FnE Tryz.prog 133 [dev (dr10 a) m, I 3, I k] [] (dev (dr10 { a with x := k % 2 ^ 1 }) m) [] := by
  refine N.fn Tryz.func133 k133 lb q133 fun Q hQ hQN => ?_
  rw [c133]
  repeat' (first
  | (show WOpsT _ (⟨_, .call _ _, none⟩ :: _) _ _ _ _; first | refine T.callN e151 rfl (drvfit a m nd H) (by simp) ?_ | refine T.call0 e77 rfl (low_lit _ 1 1 rfl (by decide)) ?_)
  | exact True.intro
  | refine fun (K : KT) hK => ?_
  | intro hcd
  | (refine go1 ?_ ?_ <;> try clear hK K)
  | fail)
  exact WS.dev2 rfl rfl (Nat.le_refl _) rfl (Nat.le_refl _)
theorem Dr.begin_ok (a : Dr) (m : List Int) (nd : Nat) (H : a.Ok m nd) (k : Int) : (a.begin k).Ok m nd := by
  unfold Dr.begin
  split
  · exact H
  · obtain ⟨hk, ht, hc, hs, hi, hl, hd, hr, ho, hx, hm, hnd, hB⟩ := H
    constructor <;> (try dsimp only) <;> (try split) <;> first | omega | exact hB
theorem drvwr_ex (a : Dr) (m : List Int) (nd : Nat) (H : a.Ok m nd) (x v : Int) (hx : 0 ≤ x ∧ x < 4) : ∃ a' : Dr, a'.Ok m nd ∧ FnE Tryz.prog 133 [dev (dr10 a) m, I x, I v] [] (dev (dr10 a') m) [] := by
  obtain rfl | rfl | rfl | rfl : x = 0 ∨ x = 1 ∨ x = 2 ∨ x = 3 := by omega
  · exact ⟨_, Dr.begin_ok a m nd H _, drvw0 a m nd v H⟩
  · refine ⟨{ a with d := v % 2 ^ 8, r := if a.c = 4 then 0 else a.r }, { H with d := by dsimp only; omega, r := ?_ }, drvw1 a m nd v H⟩
    have := H.r
    dsimp only; split <;> omega
  · exact ⟨_, H, drvw2 a m nd v H⟩
  · exact ⟨{ a with x := v % 2 ^ 1 }, { H with x := by dsimp only; omega }, drvw3 a m nd v H⟩
end Go.Proofs.YtpfagchhmfigfaaGreat.Calc

