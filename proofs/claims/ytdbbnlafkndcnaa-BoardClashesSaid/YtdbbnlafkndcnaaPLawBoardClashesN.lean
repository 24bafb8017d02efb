/- Several texts in one (FnMachA), for the proof of LawBoardClashes. No condition beyond those in each lemma. -/
import Derived.Test.YtdbbnlafkndcnaaPLawBoardClashesM
import Derived.Test.YtdbbnlafkndcnaaPLawBoardClashesD
namespace Go.Proofs.Ytdbbnlafkndcnaa.Calc
open Go Code
set_option linter.unusedSimpArgs false
set_option linter.unusedVariables false
set_option maxRecDepth 20000
set_option maxHeartbeats 8000000
attribute [local irreducible] WOpsT AW AK RK AKW UK UC
def SmlD (d:Dv):Prop:=d.1.length≤100000∧d.2.length≤100000
def maP (t:Int) (r:Nat→Int) (op a:Int) (b:Bool) (v n:Nat) (x y z:Int):List V:=[I t,I (r 0),I (r 1),I (r 2),I (r 3),I (r 4),I (r 5),I (r 6),I (r 7),I (r 8),I op,I a,.c (.bool b),.psl 0 v 0 n,I x,I y,I z]
end Go.Proofs.Ytdbbnlafkndcnaa.Calc
