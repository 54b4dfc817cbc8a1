import Derived.Test.YtpcmodmghpijeaaP2
namespace Go.Proofs.Ytpcmodmghpijeaa.Q
open Go.RowKit Go.Proofs.YtpcmodmghpijeaaW.PrintWords
set_option maxRecDepth 100000
theorem okV_F1 : (allV 10 4 fun t => okV (1 :: 0 :: 0 :: t)) = true := by decide +kernel
theorem okV_F2 : (allW 10 4 fun t => okV (1 :: 0 :: t)) = true := by decide +kernel
end Go.Proofs.Ytpcmodmghpijeaa.Q
