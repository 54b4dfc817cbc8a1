import Derived.Test.YtpcmodmghpijeaaP2
namespace Go.Proofs.Ytpcmodmghpijeaa.Q
open Go.RowKit Go.Proofs.YtpcmodmghpijeaaW.PrintWords
set_option maxRecDepth 100000
theorem okV_E1 : (allV 10 4 fun t => okV (0 :: 1 :: 0 :: t)) = true := by decide +kernel
theorem okV_E2 : (allW 10 4 fun t => okV (0 :: 1 :: t)) = true := by decide +kernel
theorem okV_E3 : (allV 11 3 fun t => okV (0 :: 2 :: t)) = true := by decide +kernel
theorem okV_E4 : (allV 11 2 fun t => okV (0 :: 3 :: t)) = true := by decide +kernel
theorem okV_E5 : (allV 11 1 fun t => okV (0 :: 4 :: t)) = true := by decide +kernel
end Go.Proofs.Ytpcmodmghpijeaa.Q
