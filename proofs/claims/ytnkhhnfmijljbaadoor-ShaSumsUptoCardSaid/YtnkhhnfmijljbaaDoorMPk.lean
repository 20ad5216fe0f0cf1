/- cairnlaw03.known at the four published codes. -/
import Derived.Test.YtnkhhnfmijljbaaDoorMKn
import Derived.Test.YtnkhhnfmijljbaaDoorMPb
set_option linter.unusedVariables false
namespace Go.Proofs.YtnkhhnfmijljbaaDoor
open Go.RowKit Go.Proofs.YtnkhhnfmijljbaaDoorW.PrintWords Go.Proofs.YtnkhhnfmijljbaaDoorW.PrintLast Go.Proofs.YtnkhhnfmijljbaaDoorW.PrintMore
theorem knownAtA (w : World) (hK : KTab w) (hF : FTab w) : Calls Tryd.prog 27 #[.string (strB secA), .string { data := #[72, 105, 32, 84, 104, 101, 114, 101] }, .int .u32 2956217441, .int .u8 247] w (fun e w' => e = .returned (.bool true) ∧ Ext w w') :=
  mknown_calls w secA msgA 2956217441 247 hK hF (by simp [secA]) (by simp [msgA]) pubA.1 pubA.2
theorem knownAtB (w : World) (hK : KTab w) (hF : FTab w) : Calls Tryd.prog 27 #[.string { data := #[74, 101, 102, 101] }, .string { data := #[119, 104, 97, 116, 32, 100, 111, 32, 121, 97, 32, 119, 97, 110, 116, 32, 102, 111, 114, 32, 110, 111, 116, 104, 105, 110, 103, 63] }, .int .u32 1541194054, .int .u8 67] w (fun e w' => e = .returned (.bool true) ∧ Ext w w') :=
  mknown_calls w secB msgB 1541194054 67 hK hF (by simp [secB]) (by simp [msgB]) pubB.1 pubB.2
theorem knownAtC (w : World) (hK : KTab w) (hF : FTab w) : Calls Tryd.prog 27 #[.string { data := #[] }, .string { data := #[] }, .int .u32 3054725018, .int .u8 173] w (fun e w' => e = .returned (.bool true) ∧ Ext w w') :=
  mknown_calls w secC msgC 3054725018 173 hK hF (by simp [secC]) (by simp [msgC]) pubC.1 pubC.2
theorem knownAtD (w : World) (hK : KTab w) (hF : FTab w) : Calls Tryd.prog 27 #[.string (strB secD), .string { data := #[84, 101, 115, 116, 32, 85, 115, 105, 110, 103, 32, 76, 97, 114, 103, 101, 114, 32, 84, 104, 97, 110, 32, 66, 108, 111, 99, 107, 45, 83, 105, 122, 101, 32, 75, 101, 121, 32, 45, 32, 72, 97, 115, 104, 32, 75, 101, 121, 32, 70, 105, 114, 115, 116] }, .int .u32 1625567577, .int .u8 84] w (fun e w' => e = .returned (.bool true) ∧ Ext w w') :=
  mknown_calls w secD msgD 1625567577 84 hK hF (by simp [secD]) (by simp [msgD]) pubD.1 pubD.2
end Go.Proofs.YtnkhhnfmijljbaaDoor
