import Derived.Test.YtpgljcapgakanaaGreatGaQC
/- The walks of May of entries, the program's and the document's. -/
set_option linter.unusedSimpArgs false
set_option linter.unusedVariables false
namespace Go.Proofs.YtpgljcapgakanaaGreat
open Go.RowKit
theorem agg44 : aggB Tryz.prog 44 7 = true := by kernel_rfl
end Go.Proofs.YtpgljcapgakanaaGreat
