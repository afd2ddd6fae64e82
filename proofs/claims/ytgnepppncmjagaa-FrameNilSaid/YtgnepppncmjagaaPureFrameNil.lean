import Derived.Test.YtgnepppncmjagaaPrintF6
namespace Go.Proofs.Ytgnepppncmjagaa.Pure
open Go.Proofs.Ytgnepppncmjagaa.Print
theorem FrameNil : headgatelaw23_FrameNil.Pure := trivial
end Go.Proofs.Ytgnepppncmjagaa.Pure
