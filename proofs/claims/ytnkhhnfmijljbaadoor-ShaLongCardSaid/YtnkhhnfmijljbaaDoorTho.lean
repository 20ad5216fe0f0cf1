/- The sum of a thousand a's, by the kernel. -/
import Derived.Test.YtnkhhnfmijljbaaDoorAwk
namespace Go.Proofs.YtnkhhnfmijljbaaDoor
def thousandL : List UInt8 := [52, 49, 101, 100, 101, 99, 101, 52, 50, 100, 54, 51, 101, 56, 100, 57, 98, 102, 53, 49, 53, 97, 57, 98, 97, 54, 57, 51, 50, 101, 49, 99, 50, 48, 99, 98, 99, 57, 102, 53, 97, 53, 100, 49, 51, 52, 54, 52, 53, 97, 100, 98, 53, 100, 98, 49, 98, 57, 55, 51, 55, 101, 97, 51]
set_option maxRecDepth 100000 in
theorem thousand : hexL (Spec.digest (List.replicate 1000 97)) = thousandL := by decide +kernel
end Go.Proofs.YtnkhhnfmijljbaaDoor
