/- Helpers: slices of blocks that become trees while other blocks are kept. No condition beyond those in each lemma. -/
import Derived.Test.YtjmmompbmjhkpaaCalcS
namespace Go.Proofs.Ytjmmompbmjhkpaa.Calc
open Go
set_option linter.unusedSimpArgs false
theorem out_pslK {h : List Blk} {ids : List Nat} {n b ver off len : Nat} {B : Blk} (hp : pos ids b = none) (hb : h[b]? = some B) (hv : B.ver = ver) : out h ids (n + 1) (.psl b ver off len) = .sl B.esz (((B.rows.drop off).take len).map (·.map (frz h (fun b => (pos ids b).isSome) n))) := by
  rw [← frz_psl hb hv (show (fun b => (pos ids b).isSome) b = false by dsimp only; rw [hp]; rfl)]
  simp only [out, V.mapR, hp]
theorem out_intsK {h : List Blk} {ids : List Nat} {n b v len : Nat} {m : List Int} (hp : pos ids b = none) (hb : h[b]? = some ⟨v, 1, cells m⟩) (hl : m.length ≤ len) : out h ids (n + 1) (.psl b v 0 len) = .sl 1 (cells m) := by
  rw [out_pslK hp hb rfl, List.drop_zero, cells_take, List.take_of_length_le hl, cells_frz]
theorem out_bytesK {h : List Blk} {ids : List Nat} {n b v len : Nat} {m : List Int} (hp : pos ids b = none) (hb : h[b]? = some ⟨v, 1, bcells m⟩) (hl : m.length ≤ len) : out h ids (n + 1) (.psl b v 0 len) = .sl 1 (bcells m) := by
  rw [out_pslK hp hb rfl, List.drop_zero, bcells_take, List.take_of_length_le hl, bcells_frz]
theorem WS.dev2K {k b v len b' v' len' : Nat} {h h' : List Blk} {n m : List Int} (ids : List Nat) (hids : gcOk k h.length ids = true) (hh : h' = outH h ids 1) (hp : pos ids b = none) (hp' : pos ids b' = none)
    (h1 : h[b]? = some ⟨v, 1, cells n⟩) (l1 : n.length ≤ len) (h2 : h[b']? = some ⟨v', 1, bcells m⟩) (l2 : m.length ≤ len') : WeakS k (.agg [.psl b v 0 len, .psl b' v' 0 len']) h (dev n m) h' :=
  WS.gc ids 1 hids hh (by rw [out_agg]; simp only [List.map]; rw [out_intsK hp h1 l1, out_bytesK hp' h2 l2]; exact .rfl)
end Go.Proofs.Ytjmmompbmjhkpaa.Calc
