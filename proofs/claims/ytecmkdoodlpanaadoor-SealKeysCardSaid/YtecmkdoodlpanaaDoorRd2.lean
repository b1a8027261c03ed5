/- What the reader of the layer wire does: Var. Conditions: a reader that lies in a block of its own. -/
import Derived.Test.YtecmkdoodlpanaaDoorRd1
namespace Go.Proofs.YtecmkdoodlpanaaDoor
open Go Go.RowKit

def varR (s : RS) : Nat × RS :=
  if s.err ≠ 0 then (0, s) else match varGo (s.b.drop s.at_) 0 with
    | .bad e => (0, { s with err := e })
    | .ok n k => (n, { s with at_ := s.at_ + k })

end Go.Proofs.YtecmkdoodlpanaaDoor
