/- What was seen, as plain steps. -/
import Derived.Test.YtojgiaemgpnfdaaJP
import Derived.Test.YtojgiaemgpnfdaaPJudgeJudgesx0
namespace Go.Proofs.Ytojgiaemgpnfdaa.J
open Go.Proofs.Ytojgiaemgpnfdaa.PJudgeJudges
/-- The steps of a list of what was seen. -/
def steps (l : List S28) : List (Int × Int × Int) := l.map fun s => (s.f0, s.f1, s.f2)
end Go.Proofs.Ytojgiaemgpnfdaa.J
