/- What alu's Do computes. No condition. -/
import Derived.Test.YtjmmompbmjhkpaaFnAlu
namespace Go.Proofs.Ytjmmompbmjhkpaa.Calc
open Go Code
set_option linter.unusedSimpArgs false
set_option linter.unusedVariables false
set_option maxRecDepth 20000
set_option maxHeartbeats 8000000
attribute [local irreducible] WOpsT AW AK RK AKW UK UC
/-- What a step does to registers that fit. -/
def midR (d : Int) (t f : Nat) (n : Int) (r : Nat → Int) : Nat → Int :=
  if d = 1 then upd r t (r f)
  else if d = 2 then upd r t n
  else if d = 3 then nzR r (r t % 256)
  else if 4 ≤ d ∧ d ≤ 9 then binR d t f r
  else if d = 10 ∨ d = 11 then
    let m := (r t + 1 - 2 * (d - 10)) % 2 ^ wd (bitsR t)
    upd (if t = 7 ∨ t = 8 then r else nzR r m) t m
  else if 12 ≤ d ∧ d ≤ 15 then shiftR d t r
  else if d = 16 ∨ d = 17 then flagR r (n % 256) (decide (d = 16))
  else if d = 18 then upd r t (putv (r t) 0 8 (r f))
  else if d = 19 then upd r t (putv (r t) 8 8 (r f))
  else if d = 20 then upd r t (r f / 2 ^ 0 % 2 ^ 8)
  else if d = 21 then upd r t (r f / 2 ^ 8 % 2 ^ 8)
  else if d = 22 then upd r t (r t + r f % 256)
  else if d = 23 then upd r t (r t + sgn8 (r f))
  else r
/-- What a step does; true: the instruction ends. -/
def doR (d t f n : Int) (r : Nat → Int) : (Nat → Int) × Bool :=
  if d = 24 then (fitR r, xor (decide (bits .and .i64 (fitR r 4) (n % 256) ≠ 0)) (decide (f = 1)))
  else (fitR (midR d (ixR t) (ixR f) n (fitR r)), false)
theorem low8 (v : Int) : FnE Try.prog 35 [I v, I 8] [] (I (v % 256)) [] := low_lit v 8 8 rfl (by decide)
end Go.Proofs.Ytjmmompbmjhkpaa.Calc
