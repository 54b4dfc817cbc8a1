import Derived.Test.YtpcmodmghpijeaaP2
namespace Go.Proofs.Ytpcmodmghpijeaa.Q
open Go.RowKit Go.Proofs.YtpcmodmghpijeaaW.PrintWords
set_option maxRecDepth 100000
theorem okV_F3 : (allW 11 4 fun t => okV (1 :: t)) = true := by decide +kernel
theorem okV_F4 : (allV 12 3 fun t => okV (2 :: t)) = true := by decide +kernel
theorem okV_F5 : (allV 12 2 fun t => okV (3 :: t)) = true := by decide +kernel
theorem okV_F6 : (allV 12 1 fun t => okV (4 :: t)) = true := by decide +kernel
end Go.Proofs.Ytpcmodmghpijeaa.Q
