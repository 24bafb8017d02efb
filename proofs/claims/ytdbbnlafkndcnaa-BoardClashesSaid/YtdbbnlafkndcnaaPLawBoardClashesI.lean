/- Several texts in one (FnSound, FnSoundB, FnDriveC, FnDevs), for the proof of LawBoardClashes. No condition beyond those in each lemma. -/
import Derived.Test.YtdbbnlafkndcnaaPLawBoardClashesE
import Derived.Test.YtdbbnlafkndcnaaPLawBoardClashesH
import Derived.Test.YtdbbnlafkndcnaaPLawBoardClashesD
import Derived.Test.YtdbbnlafkndcnaaPLawBoardClashesG
namespace Go.Proofs.Ytdbbnlafkndcnaa.Calc
open Go Code
set_option linter.unusedSimpArgs false
set_option linter.unusedVariables false
set_option maxRecDepth 20000
set_option maxHeartbeats 8000000
attribute [local irreducible] WOpsT AW AK RK AKW UK UC
abbrev vo2 (x y:Vo):List Int:=[x.p,x.v,x.r,x.c,x.f,x.w,y.p,y.v,y.r,y.c,y.f,y.w]
abbrev vo2B (x y:Vo):Blk:=⟨1,1,cells (vo2 x y)⟩
abbrev PortOk (a b c:Int):Prop:=(0≤a∧a < 256)∧(0≤b∧b < 256)∧(0≤c∧c < 256)
end Go.Proofs.Ytdbbnlafkndcnaa.Calc
