/- The reference: choices. -/
import Derived.Test.YtabliglgeiajlaaHD
import Derived.Test.YtabliglgeiajlaaU6
set_option linter.unusedSimpArgs false
set_option linter.unusedVariables false
namespace Go.Proofs.Ytabliglgeiajlaa.AM
open Go Go.RowKit Go.Proofs
set_option maxRecDepth 100000
set_option maxHeartbeats 1000000

def spF (f : Bool) (sp : Sp) : List D := [.v (.int .i64 sp.code), .v (.int .i64 sp.mem), .v (.int .i64 sp.stack), .v (.int .i64 sp.val), .sl f 1 (intRow sp.ws)]
end Go.Proofs.Ytabliglgeiajlaa.AM
