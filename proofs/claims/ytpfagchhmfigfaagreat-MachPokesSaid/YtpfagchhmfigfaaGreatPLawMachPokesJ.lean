/- Several texts in one (FnChipOps, FnChipEx, PureSkip, FnMakeB), for the proof of LawMachPokes. No condition beyond those in each lemma. -/
import Derived.Test.YtpfagchhmfigfaaGreatPLawMachPokesI
import Derived.Test.YtpfagchhmfigfaaGreatPLawMachPokesF
namespace Go.Proofs.YtpfagchhmfigfaaGreat.Calc
open Go Code
set_option linter.unusedSimpArgs false
set_option linter.unusedVariables false
set_option maxRecDepth 20000
set_option maxHeartbeats 4000000
attribute [local irreducible] WOpsT AW AK RK AKW UK UC
section
variable (nm : ByteArray) (b s : Int) (dat : List Int)
theorem chWr3 {n m n' m' : List Int} {a v : Int} (h : FnE Tryz.prog 128 [dev n m, I a, I v] [] (dev n' m') []) : FnE Tryz.prog 78 [.agg (cR nm 3 b s dat), dev n m, I a, I v] [] (dev n' m') [] := by
  refine N.fn Tryz.func78 k78 lb q78 fun Q hQ hQN => ?_
  rw [c78]
  repeat' (first
  | refine T.call0 e128 rfl (h) ?_
  | exact True.intro
  | refine fun (K : KT) hK => ?_
  | intro hcd
  | (refine go1 ?_ ?_ <;> try clear hK K)
  | fail)
  exact WS.drop (n := 0) rfl rfl
theorem chNw3 {n m : List Int} (h : FnE Tryz.prog 114 [] [] (dev n m) []) : FnE Tryz.prog 58 [.agg (cR nm 3 b s dat)] [] (dev n m) [] := by
  refine N.fn Tryz.func58 k58 lb q58 fun Q hQ hQN => ?_
  rw [c58]
  repeat' (first
  | refine T.call0 e114 rfl (h) ?_
  | exact True.intro
  | refine fun (K : KT) hK => ?_
  | intro hcd
  | (refine go1 ?_ ?_ <;> try clear hK K)
  | fail)
  exact WS.drop (n := 0) rfl rfl
theorem chWr4 {n m n' m' : List Int} {a v : Int} (h : FnE Tryz.prog 129 [dev n m, I a, I v] [] (dev n' m') []) : FnE Tryz.prog 78 [.agg (cR nm 4 b s dat), dev n m, I a, I v] [] (dev n' m') [] := by
  refine N.fn Tryz.func78 k78 lb q78 fun Q hQ hQN => ?_
  rw [c78]
  repeat' (first
  | refine T.call0 e129 rfl (h) ?_
  | exact True.intro
  | refine fun (K : KT) hK => ?_
  | intro hcd
  | (refine go1 ?_ ?_ <;> try clear hK K)
  | fail)
  exact WS.drop (n := 0) rfl rfl
theorem chNw4 {n m : List Int} (h : FnE Tryz.prog 115 [] [] (dev n m) []) : FnE Tryz.prog 58 [.agg (cR nm 4 b s dat)] [] (dev n m) [] := by
  refine N.fn Tryz.func58 k58 lb q58 fun Q hQ hQN => ?_
  rw [c58]
  repeat' (first
  | refine T.call0 e115 rfl (h) ?_
  | exact True.intro
  | refine fun (K : KT) hK => ?_
  | intro hcd
  | (refine go1 ?_ ?_ <;> try clear hK K)
  | fail)
  exact WS.drop (n := 0) rfl rfl
theorem chWr5 {n m n' m' : List Int} {a v : Int} (h : FnE Tryz.prog 130 [dev n m, I a, I v] [] (dev n' m') []) : FnE Tryz.prog 78 [.agg (cR nm 5 b s dat), dev n m, I a, I v] [] (dev n' m') [] := by
  refine N.fn Tryz.func78 k78 lb q78 fun Q hQ hQN => ?_
  rw [c78]
  repeat' (first
  | refine T.call0 e130 rfl (h) ?_
  | exact True.intro
  | refine fun (K : KT) hK => ?_
  | intro hcd
  | (refine go1 ?_ ?_ <;> try clear hK K)
  | fail)
  exact WS.drop (n := 0) rfl rfl
theorem chNw5 {n m : List Int} (h : FnE Tryz.prog 116 [] [] (dev n m) []) : FnE Tryz.prog 58 [.agg (cR nm 5 b s dat)] [] (dev n m) [] := by
  refine N.fn Tryz.func58 k58 lb q58 fun Q hQ hQN => ?_
  rw [c58]
  repeat' (first
  | refine T.call0 e116 rfl (h) ?_
  | exact True.intro
  | refine fun (K : KT) hK => ?_
  | intro hcd
  | (refine go1 ?_ ?_ <;> try clear hK K)
  | fail)
  exact WS.drop (n := 0) rfl rfl
theorem chWr6 {n m n' m' : List Int} {a v : Int} (h : FnE Tryz.prog 131 [dev n m, I a, I v] [] (dev n' m') []) : FnE Tryz.prog 78 [.agg (cR nm 6 b s dat), dev n m, I a, I v] [] (dev n' m') [] := by
  refine N.fn Tryz.func78 k78 lb q78 fun Q hQ hQN => ?_
  rw [c78]
  repeat' (first
  | refine T.call0 e131 rfl (h) ?_
  | exact True.intro
  | refine fun (K : KT) hK => ?_
  | intro hcd
  | (refine go1 ?_ ?_ <;> try clear hK K)
  | fail)
  exact WS.drop (n := 0) rfl rfl
theorem chNw6 {n m : List Int} (h : FnE Tryz.prog 117 [] [] (dev n m) []) : FnE Tryz.prog 58 [.agg (cR nm 6 b s dat)] [] (dev n m) [] := by
  refine N.fn Tryz.func58 k58 lb q58 fun Q hQ hQN => ?_
  rw [c58]
  repeat' (first
  | refine T.call0 e117 rfl (h) ?_
  | exact True.intro
  | refine fun (K : KT) hK => ?_
  | intro hcd
  | (refine go1 ?_ ?_ <;> try clear hK K)
  | fail)
  exact WS.drop (n := 0) rfl rfl
theorem chWr7 {n m n' m' : List Int} {a v : Int} (h : FnE Tryz.prog 132 [dev n m, I a, I v] [] (dev n' m') []) : FnE Tryz.prog 78 [.agg (cR nm 7 b s dat), dev n m, I a, I v] [] (dev n' m') [] := by
  refine N.fn Tryz.func78 k78 lb q78 fun Q hQ hQN => ?_
  rw [c78]
  repeat' (first
  | refine T.call0 e132 rfl (h) ?_
  | exact True.intro
  | refine fun (K : KT) hK => ?_
  | intro hcd
  | (refine go1 ?_ ?_ <;> try clear hK K)
  | fail)
  exact WS.drop (n := 0) rfl rfl
theorem chNw7 {n m : List Int} (h : FnE Tryz.prog 118 [] [] (dev n m) []) : FnE Tryz.prog 58 [.agg (cR nm 7 b s dat)] [] (dev n m) [] := by
  refine N.fn Tryz.func58 k58 lb q58 fun Q hQ hQN => ?_
  rw [c58]
  repeat' (first
  | refine T.call0 e118 rfl (h) ?_
  | exact True.intro
  | refine fun (K : KT) hK => ?_
  | intro hcd
  | (refine go1 ?_ ?_ <;> try clear hK K)
  | fail)
  exact WS.drop (n := 0) rfl rfl
theorem chWr8 {n m n' m' : List Int} {a v : Int} (h : FnE Tryz.prog 133 [dev n m, I a, I v] [] (dev n' m') []) : FnE Tryz.prog 78 [.agg (cR nm 8 b s dat), dev n m, I a, I v] [] (dev n' m') [] := by
  refine N.fn Tryz.func78 k78 lb q78 fun Q hQ hQN => ?_
  rw [c78]
  repeat' (first
  | refine T.call0 e133 rfl (h) ?_
  | exact True.intro
  | refine fun (K : KT) hK => ?_
  | intro hcd
  | (refine go1 ?_ ?_ <;> try clear hK K)
  | fail)
  exact WS.drop (n := 0) rfl rfl
theorem chNw8 {n m : List Int} (h : FnE Tryz.prog 119 [.sl 1 (bcells dat)] [] (dev n m) []) : FnE Tryz.prog 58 [.agg (cR nm 8 b s dat)] [] (dev n m) [] := by
  refine N.fn Tryz.func58 k58 lb q58 fun Q hQ hQN => ?_
  rw [c58]
  repeat' (first
  | refine T.call0 e119 rfl (h) ?_
  | exact True.intro
  | refine fun (K : KT) hK => ?_
  | intro hcd
  | (refine go1 ?_ ?_ <;> try clear hK K)
  | fail)
  exact WS.drop (n := 0) rfl rfl
theorem chRd0 (k : Int) (z : Nat) (hk : k = 0 ∨ k = 1) (hz : z ≤ 4096) (m : List Int) (hm : m.length = z) (hb : Bytes m) (a : Int) (ha : 0 ≤ a ∧ a < z) : FnE Tryz.prog 79 [.agg (cR nm k b z dat), dev [] m, I a] [] (.tup [dev [] m, I (m.getD a.toNat 0)]) [] := by
  have hf := read_m nm b dat k z hk hz m hm hb a ha
  refine N.fn Tryz.func79 k79 lb q79 fun Q hQ hQN => ?_
  rw [c79]
  repeat' (first
  | refine T.call0 e134 rfl (hf) ?_
  | exact True.intro
  | refine fun (K : KT) hK => ?_
  | intro hcd
  | (refine go1 ?_ ?_ <;> try clear hK K)
  | fail)
  all_goals first
    | (exfalso; omega)
    | exact WS.drop (n := 0) rfl rfl
theorem chWr0 (z : Nat) (hz : z ≤ 4096) (m : List Int) (hm : m.length = z) (a : Int) (ha : 0 ≤ a ∧ a < z) (v : Int) : FnE Tryz.prog 78 [.agg (cR nm 0 b z dat), dev [] m, I a, I v] [] (dev [] (m.set a.toNat (v % 256))) [] := by
  have hf := write_m0 nm b dat z hz m hm a ha v
  refine N.fn Tryz.func78 k78 lb q78 fun Q hQ hQN => ?_
  rw [c78]
  repeat' (first
  | refine T.call0 e127 rfl (hf) ?_
  | exact True.intro
  | refine fun (K : KT) hK => ?_
  | intro hcd
  | (refine go1 ?_ ?_ <;> try clear hK K)
  | fail)
  exact WS.drop (n := 0) rfl rfl
theorem chWr1 (z : Nat) (hz : z ≤ 4096) (m : List Int) (hm : m.length = z) (a : Int) (ha : 0 ≤ a ∧ a < z) (v : Int) : FnE Tryz.prog 78 [.agg (cR nm 1 b z dat), dev [] m, I a, I v] [] (dev [] m) [] := by
  have hf := write_m1 nm b dat z hz m hm a ha v
  refine N.fn Tryz.func78 k78 lb q78 fun Q hQ hQN => ?_
  rw [c78]
  repeat' (first
  | refine T.call0 e127 rfl (hf) ?_
  | exact True.intro
  | refine fun (K : KT) hK => ?_
  | intro hcd
  | (refine go1 ?_ ?_ <;> try clear hK K)
  | fail)
  exact WS.drop (n := 0) rfl rfl
theorem chWr2 (nb : Nat) (h1 : 1 ≤ nb ∧ nb ≤ 3) (hd : dat.length = 8 * nb) (n : Int) (hn : 0 ≤ n ∧ n < nb) (m : List Int) (hm : m.length = 8 * nb) (a : Int) (ha : 0 ≤ a ∧ a < 9) (v : Int) (n' m' : List Int) (he : (if a = 0 then dev [v % 256 % nb] m else dev [n] (m.set (n * 8 + a - 1).toNat (v % 256))) = dev n' m') : FnE Tryz.prog 78 [.agg (cR nm 2 b 9 dat), dev [n] m, I a, I v] [] (dev n' m') [] := by
  have hf := write_k nm b dat nb h1 hd n hn m hm a ha v
  rw [he] at hf
  refine N.fn Tryz.func78 k78 lb q78 fun Q hQ hQN => ?_
  rw [c78]
  repeat' (first
  | refine T.call0 e127 rfl (hf) ?_
  | exact True.intro
  | refine fun (K : KT) hK => ?_
  | intro hcd
  | (refine go1 ?_ ?_ <;> try clear hK K)
  | fail)
  exact WS.drop (n := 0) rfl rfl
end
end Go.Proofs.YtpfagchhmfigfaaGreat.Calc

namespace Go.Proofs.YtpfagchhmfigfaaGreat.Calc
open Go Code
set_option linter.unusedSimpArgs false
set_option linter.unusedVariables false
set_option maxRecDepth 20000
set_option maxHeartbeats 4000000
abbrev Dv := List Int × List Int
def dvC (d : Dv) : List V := [.sl 1 (cells d.1), .sl 1 (bcells d.2)]
inductive VKind (c : Chp) : Prop where
  | mem (z : Nat) (hk : c.kind = 0 ∨ c.kind = 1) (hs : c.size = z) (h1 : 1 ≤ z ∧ z ≤ 4096) (hd : c.data.length ≤ z) (hb : Bytes c.data)
  | bank (nb : Nat) (hk : c.kind = 2) (hs : c.size = 9) (h1 : 1 ≤ nb ∧ nb ≤ 3) (hd : c.data.length = 8 * nb) (hb : Bytes c.data)
  | dev (hk : c.kind = 3 ∨ c.kind = 4 ∨ c.kind = 5 ∨ c.kind = 6 ∨ c.kind = 7) (hs : c.size = szN c.kind.toNat) (hd : c.data = [])
  | drive (nd : Nat) (hk : c.kind = 8) (hs : c.size = 4) (hn : nd ≤ 16) (hd : c.data.length = 256 * nd) (hb : Bytes c.data)
inductive DvOk (c : Chp) : Dv → Prop where
  | mem (z : Nat) (hk : c.kind = 0 ∨ c.kind = 1) (hs : c.size = z) (h1 : 1 ≤ z ∧ z ≤ 4096) (m : List Int) (hm : m.length = z) (hb : Bytes m) : DvOk c ([], m)
  | bank (nb : Nat) (hk : c.kind = 2) (hs : c.size = 9) (h1 : 1 ≤ nb ∧ nb ≤ 3) (hd : c.data.length = 8 * nb) (n : Int) (hn : 0 ≤ n ∧ n < nb) (m : List Int) (hm : m.length = 8 * nb) (hb : Bytes m) : DvOk c ([n], m)
  | timer (hk : c.kind = 3) (hs : c.size = 4) (x y a f : Int) (h : TimOk x y a f) : DvOk c ([x, y, a, f], [])
  | port (hk : c.kind = 4) (hs : c.size = 2) (x y z : Int) (h : PortOk x y z) : DvOk c ([x, y, z], [])
  | serial (hk : c.kind = 5) (hs : c.size = 3) (s l g f o a n z : Int) (h : SerOk s l g f o a n z) : DvOk c ([s, l, g, f, o, a, n, z], [])
  | video (hk : c.kind = 6) (hs : c.size = 32) (p q : Int) (m : List Int) (h : VidOk p q m) : DvOk c ([p, q], m)
  | sound (hk : c.kind = 7) (hs : c.size = 8) (x y : Vo) (hx : x.Ok) (hy : y.Ok) : DvOk c (vo2 x y, [])
  | drive (nd : Nat) (hk : c.kind = 8) (hs : c.size = 4) (a : Dr) (m : List Int) (h : a.Ok m nd) : DvOk c (dr10 a, m)
theorem chNew_ex (c : Chp) (hc : VKind c) : ∃ d : Dv, DvOk c d ∧ FnE Tryz.prog 58 [.agg (chV c)] [] (.agg (dvC d)) [] := by
  obtain ⟨nm, k, b, s, dat⟩ := c
  rcases hc with ⟨z, hk, hs, h1, hd, hb⟩ | ⟨nb, hk, hs, h1, hd, hb⟩ | ⟨hk, hs, hd⟩ | ⟨nd, hk, hs, hn, hd, hb⟩
  · dsimp only at hk hs hd hb; subst hs
    exact ⟨([], cpy (List.replicate z 0) dat 0), .mem z hk rfl h1 _ (by rw [cpy_len, List.length_replicate]) (cpy_bytes (Bytes.zeros _) hb _), new_m nm b dat k z hk h1.2 hd⟩
  · dsimp only at hk hs hd hb; subst hs; subst hk
    exact ⟨([0], dat), .bank nb rfl rfl h1 hd 0 (by omega) _ hd hb, new_k nm b dat nb h1 hd⟩
  · dsimp only at hk hs hd; subst hd
    rcases hk with rfl | rfl | rfl | rfl | rfl
    · exact ⟨([0, 0, 0, 0], []), .timer rfl hs _ _ _ _ (by decide), chNw3 nm b s [] timnew_ok⟩
    · exact ⟨([255, 0, 0], []), .port rfl hs _ _ _ (by decide), chNw4 nm b s [] prtnew_ok⟩
    · exact ⟨([0, 0, 0, 0, 0, 0, 0, 0], []), .serial rfl hs _ _ _ _ _ _ _ _ (by decide), chNw5 nm b s [] sernew_ok⟩
    · exact ⟨([2559, 0], List.replicate 32 0), .video rfl hs _ _ _ ⟨by decide, by decide, List.length_replicate, Bytes.zeros _⟩, chNw6 nm b s [] vidnew_ok⟩
    · exact ⟨([0, 0, 0, 0, 0, 0, 0, 0, 0, 0, 0, 0], []), .sound rfl hs ⟨0, 0, 0, 0, 0, 0⟩ ⟨0, 0, 0, 0, 0, 0⟩ (by unfold Vo.Ok; decide) (by unfold Vo.Ok; decide), chNw7 nm b s [] sndnew_ok⟩
  · dsimp only at hk hs hd hb; subst hs; subst hk
    exact ⟨([0, 0, 0, 0, 0, 0, 0, 0, 0, 0], dat), .drive nd rfl rfl ⟨0, 0, 0, 0, 0, 0, 0, 0, 0, 0⟩ _ (by constructor <;> first | omega | exact hb | decide | (dsimp only; omega)), chNw8 nm b 4 dat (drvnew dat nd hd (by omega))⟩
theorem chWrite_ex (c : Chp) (d : Dv) (hd : DvOk c d) (a v : Int) (ha : 0 ≤ a ∧ a < c.size) : ∃ d' : Dv, DvOk c d' ∧ FnE Tryz.prog 78 [.agg (chV c), .agg (dvC d), I a, I v] [] (.agg (dvC d')) [] := by
  obtain ⟨nm, k, b, s, dat⟩ := c
  rcases hd with ⟨z, hk, hs, h1, m, hm, hb⟩ | ⟨nb, hk, hs, h1, hd, n, hn, m, hm, hb⟩ | ⟨hk, hs, x, y, e, f, h⟩ | ⟨hk, hs, x, y, z, h⟩ | ⟨hk, hs, s1, l, g, f, o, e, n, z, h⟩ | ⟨hk, hs, p, q, m, h⟩ | ⟨hk, hs, x, y, hx, hy⟩ | ⟨nd, hk, hs, e, m, h⟩
  all_goals dsimp only at hk hs ha; subst hs
  · rcases hk with rfl | rfl
    · exact ⟨([], m.set a.toNat (v % 256)), .mem z (.inl rfl) rfl h1 _ (by rw [List.length_set]; exact hm) (hb.set _ _ (by omega)), chWr0 nm b dat z h1.2 m hm a ha v⟩
    · exact ⟨([], m), .mem z (.inr rfl) rfl h1 _ hm hb, chWr1 nm b dat z h1.2 m hm a ha v⟩
  · subst hk
    by_cases h0 : a = 0
    · have hv : 0 ≤ v % 256 % (nb : Int) ∧ v % 256 % (nb : Int) < nb := ⟨Int.emod_nonneg _ (by omega), Int.emod_lt_of_pos _ (by omega)⟩
      exact ⟨([v % 256 % nb], m), .bank nb rfl rfl h1 hd _ hv _ hm hb, chWr2 nm b dat nb h1 hd n hn m hm a ha v _ _ (by rw [if_pos h0])⟩
    · exact ⟨([n], m.set (n * 8 + a - 1).toNat (v % 256)), .bank nb rfl rfl h1 hd n hn _ (by rw [List.length_set]; exact hm) (hb.set _ _ (by omega)), chWr2 nm b dat nb h1 hd n hn m hm a ha v _ _ (by rw [if_neg h0])⟩
  · subst hk
    obtain ⟨x', y', e', h2, hF⟩ := timwr_ex x y e f a v h ha
    exact ⟨([x', y', e', f], []), .timer rfl rfl _ _ _ _ h2, chWr3 nm b 4 dat hF⟩
  · subst hk
    obtain ⟨y', z', h2, hF⟩ := prtwr_ex x y z a v h ha
    exact ⟨([x, y', z'], []), .port rfl rfl _ _ _ h2, chWr4 nm b 2 dat hF⟩
  · subst hk
    obtain ⟨s', l', e', h2, hF⟩ := serwr_ex s1 l g f o e n z a v h ha
    exact ⟨([s', l', g, f, o, e', n, z], []), .serial rfl rfl _ _ _ _ _ _ _ _ h2, chWr5 nm b 3 dat hF⟩
  · subst hk
    have hF := vidwrite_ok p q a v m h
    refine ⟨([p, q], if 0 ≤ a ∧ a < 32 ∧ (a < 5 ∨ 7 < a) then m.set a.toNat (v % 2 ^ 8) else m), .video rfl rfl _ _ _ ⟨h.pos, h.hit, ?_, ?_⟩, chWr6 nm b 32 dat hF⟩
    · split
      · rw [List.length_set]; exact h.len
      · exact h.len
    · split
      · exact h.mem.set _ _ (by omega)
      · exact h.mem
  · subst hk
    obtain ⟨x', y', h2, h3, hF⟩ := sndwr_ex x y hx hy a v ha
    exact ⟨(vo2 x' y', []), .sound rfl rfl _ _ h2 h3, chWr7 nm b 8 dat hF⟩
  · subst hk
    obtain ⟨e', h2, hF⟩ := drvwr_ex e m nd h a v ha
    exact ⟨(dr10 e', m), .drive nd rfl rfl _ _ h2, chWr8 nm b 4 dat hF⟩
def skipV (c : Chp) (t : Nat) (d : Dv) : Dv :=
  if c.kind = 3 then match d.1 with
    | [x, y, a, f] => (skip4 x y a f t, [])
    | _ => d
  else if c.kind = 5 then match d.1 with
    | [s, l, g, f, o, a, n, z] => (serSkip s l g f o a n z t, [])
    | _ => d
  else if c.kind = 6 then match d.1 with
    | [p, q] => ([vpos p t, vhitN d.2 p q t], d.2)
    | _ => d
  else if c.kind = 7 then match d.1 with
    | [p, v, r, e, f, w, p', v', r', e', f', w'] => (vo2 (Vo.ticks t ⟨p, v, r, e, f, w⟩) (Vo.ticks t ⟨p', v', r', e', f', w'⟩), [])
    | _ => d
  else if c.kind = 8 then match d.1 with
    | [k, u, e, s, i, l, a, r, o, x] => (dr10 (Dr.skip t t ⟨k, u, e, s, i, l, a, r, o, x⟩ d.2).1, (Dr.skip t t ⟨k, u, e, s, i, l, a, r, o, x⟩ d.2).2)
    | _ => d
  else d
end Go.Proofs.YtpfagchhmfigfaaGreat.Calc

namespace Go.Proofs.YtpfagchhmfigfaaGreat.Calc
open Go
set_option linter.unusedVariables false
set_option linter.unusedSimpArgs false
end Go.Proofs.YtpfagchhmfigfaaGreat.Calc

namespace Go.Proofs.YtpfagchhmfigfaaGreat.Calc
open Go Code
set_option linter.unusedSimpArgs false
set_option linter.unusedVariables false
set_option maxRecDepth 20000
set_option maxHeartbeats 4000000
attribute [local irreducible] WOpsT AW AK RK AKW UK UC
def stV (l : List Stp) : V := match l with
  | [] => .c (.slice none 0 0)
  | a :: l => .sl 4 ((a :: l).map stC)
def cyQ (c : Cyc) : List V := [I c.bus, I c.at_, I c.reg, stV c.steps]
instance : Flat cyQ := ⟨fun a x hx => by
  obtain ⟨b, t, r, ss⟩ := a
  cases ss with
  | nil => simp [cyQ, stV] at hx; rcases hx with rfl | rfl | rfl | rfl <;> exact .inl ⟨_, rfl⟩
  | cons s ss => simp [cyQ, stV] at hx; rcases hx with rfl | rfl | rfl | rfl <;> first | exact .inl ⟨_, rfl⟩ | exact .inr ⟨_, _, rfl⟩⟩
theorem sub_rows {α : Type} (f g : α → List V) (e : Nat) (hg : ∀ a, (g a).length = e) (hs : ∀ a (j : Nat), (∀ y, (g a)[j]? = some y → ∃ x, (f a)[j]? = some x ∧ Sub x y)) (l : List α) : Sub (.sl e (l.map f)) (.sl e (l.map g)) := by
  refine .sl (by simp) (fun row hr => ?_) (fun i j b hb => ?_) (fun i j a b ha hb => ?_)
  · obtain ⟨a, _, rfl⟩ := List.mem_map.1 hr; exact hg a
  · unfold cellOf at *
    rw [List.getElem?_map] at *
    cases hl : l[i]? with
    | none => rw [hl] at hb; cases hb
    | some a =>
      rw [hl] at hb
      obtain ⟨x, h1, _⟩ := hs a j b hb
      exact ⟨x, h1⟩
  · unfold cellOf at *
    rw [List.getElem?_map] at *
    cases hl : l[i]? with
    | none => rw [hl] at hb; cases hb
    | some q =>
      rw [hl] at ha hb
      obtain ⟨x, h1, h2⟩ := hs q j b hb
      have ha : (f q)[j]? = some a := ha
      rw [h1] at ha; cases ha; exact h2
def goReads : Nat → List Cyc → List Int → List Cyc × List Int
  | 0, acc, l => (acc, l)
  | n + 1, acc, l => goReads n (acc ++ [⟨1, 0, sval l 7, []⟩]) (srest l 7)
def moreC (l : List Int) : Cyc × List Int := if sval l 3 = 0 then (⟨0, 0, 0, []⟩, srest l 3) else (⟨sval l 3, 1 + sval (srest l 3) 11, sval (srest (srest l 3) 11) 7, []⟩, srest (srest (srest l 3) 11) 7)
def goMore : Nat → List Cyc → List Int → List Cyc × List Int
  | 0, acc, l => (acc, l)
  | n + 1, acc, l => goMore n (acc ++ [(moreC l).1]) (moreC l).2
def goSteps : Nat → List Int → List Stp × List Int
  | 0, l => ([], l)
  | 1, l => ([(mkStep l).1], (mkStep l).2)
  | _ + 2, l => ([(mkStep l).1, (mkStep (mkStep l).2).1], (mkStep (mkStep l).2).2)
def goFill : List Cyc → List Cyc → List Int → List Cyc × List Int
  | [], acc, l => (acc, l)
  | c :: todo, acc, l => goFill todo (acc ++ [⟨c.bus, c.at_, c.reg, (goSteps (sval l 3).toNat (srest l 3)).1⟩]) (goSteps (sval l 3).toNat (srest l 3)).2
def mkReads (n : Nat) (l : List Int) : List Cyc × List Int := goReads n [] l
def mkMore (n : Nat) (l : List Int) : List Cyc × List Int := goMore (sval (mkReads n l).2 4).toNat (mkReads n l).1 (srest (mkReads n l).2 4)
def mkCycles (n : Nat) (l : List Int) : List Cyc × List Int := goFill (mkMore n l).1 [] (mkMore n l).2
def rwQ (done todo : List Cyc) (b a r : Int) (x : V) : List (List V) := done.map cyQ ++ [I b, I a, I r, x] :: todo.map cyQ
end Go.Proofs.YtpfagchhmfigfaaGreat.Calc

