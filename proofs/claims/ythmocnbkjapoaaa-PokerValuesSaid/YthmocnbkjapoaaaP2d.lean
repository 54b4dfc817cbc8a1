import Derived.Test.YthmocnbkjapoaaaP2
namespace Go.Proofs.Ythmocnbkjapoaaa.Q
open Go.RowKit Go.Proofs.YthmocnbkjapoaaaW.PrintWords
set_option maxRecDepth 100000
theorem okV_F1 : (allV 10 4 fun t => okV (1 :: 0 :: 0 :: t)) = true := by decide +kernel
theorem okV_F2 : (allW 10 4 fun t => okV (1 :: 0 :: t)) = true := by decide +kernel
end Go.Proofs.Ythmocnbkjapoaaa.Q
