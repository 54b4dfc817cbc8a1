import Derived.Test.YtpcmodmghpijeaaP2
namespace Go.Proofs.Ytpcmodmghpijeaa.Q
open Go.RowKit Go.Proofs.YtpcmodmghpijeaaW.PrintWords
set_option maxRecDepth 100000
theorem okV_0 : (allV 8 5 fun t => okV (0 :: 0 :: 0 :: 0 :: 0 :: t)) = true := by decide +kernel
theorem okV_1 : (allW 8 5 fun t => okV (0 :: 0 :: 0 :: 0 :: t)) = true := by decide +kernel
end Go.Proofs.Ytpcmodmghpijeaa.Q
