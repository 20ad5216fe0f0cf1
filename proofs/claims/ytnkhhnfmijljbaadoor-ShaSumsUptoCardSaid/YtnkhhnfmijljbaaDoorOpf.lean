/- How great a list of lists is. -/
import Derived.Test.YtnkhhnfmijljbaaDoorOpn
namespace Go.Proofs.YtnkhhnfmijljbaaDoor
theorem flat_sum (ps : List (List UInt8)) : (ps.map fun x => x.length + 1).sum = ps.flatten.length + ps.length := by
  induction ps with
  | nil => rfl
  | cons p ps ih => simp only [List.map_cons, List.sum_cons, List.flatten_cons, List.length_append, List.length_cons, ih]; omega
end Go.Proofs.YtnkhhnfmijljbaaDoor
