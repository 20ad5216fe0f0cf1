/- The published codes, by the kernel. -/
import Derived.Test.YtnkhhnfmijljbaaDoorMBl
namespace Go.Proofs.YtnkhhnfmijljbaaDoor
def secA : List UInt8 := List.replicate 20 11
def msgA : List UInt8 := [72, 105, 32, 84, 104, 101, 114, 101]
set_option maxRecDepth 100000 in
theorem pubA : Spec.be ((Spec.code secA msgA).getD 0 0) ((Spec.code secA msgA).getD 1 0) ((Spec.code secA msgA).getD 2 0) ((Spec.code secA msgA).getD 3 0) = 2956217441 ∧ (Spec.code secA msgA).getD 31 0 = 247 := by decide +kernel
def secB : List UInt8 := [74, 101, 102, 101]
def msgB : List UInt8 := [119, 104, 97, 116, 32, 100, 111, 32, 121, 97, 32, 119, 97, 110, 116, 32, 102, 111, 114, 32, 110, 111, 116, 104, 105, 110, 103, 63]
set_option maxRecDepth 100000 in
theorem pubB : Spec.be ((Spec.code secB msgB).getD 0 0) ((Spec.code secB msgB).getD 1 0) ((Spec.code secB msgB).getD 2 0) ((Spec.code secB msgB).getD 3 0) = 1541194054 ∧ (Spec.code secB msgB).getD 31 0 = 67 := by decide +kernel
def secC : List UInt8 := []
def msgC : List UInt8 := []
set_option maxRecDepth 100000 in
theorem pubC : Spec.be ((Spec.code secC msgC).getD 0 0) ((Spec.code secC msgC).getD 1 0) ((Spec.code secC msgC).getD 2 0) ((Spec.code secC msgC).getD 3 0) = 3054725018 ∧ (Spec.code secC msgC).getD 31 0 = 173 := by decide +kernel
def secD : List UInt8 := List.replicate 131 170
def msgD : List UInt8 := [84, 101, 115, 116, 32, 85, 115, 105, 110, 103, 32, 76, 97, 114, 103, 101, 114, 32, 84, 104, 97, 110, 32, 66, 108, 111, 99, 107, 45, 83, 105, 122, 101, 32, 75, 101, 121, 32, 45, 32, 72, 97, 115, 104, 32, 75, 101, 121, 32, 70, 105, 114, 115, 116]
set_option maxRecDepth 100000 in
theorem pubD : Spec.be ((Spec.code secD msgD).getD 0 0) ((Spec.code secD msgD).getD 1 0) ((Spec.code secD msgD).getD 2 0) ((Spec.code secD msgD).getD 3 0) = 1625567577 ∧ (Spec.code secD msgD).getD 31 0 = 84 := by decide +kernel
end Go.Proofs.YtnkhhnfmijljbaaDoor
