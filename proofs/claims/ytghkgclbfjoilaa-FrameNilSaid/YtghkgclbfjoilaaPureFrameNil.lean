/- FrameNil holds: a framer that is not there tells nothing. -/
import Derived.Test.YtghkgclbfjoilaaF5
namespace Go.Proofs.Ytghkgclbfjoilaa.Pure
open Go.RowKit Go.Proofs.Ytghkgclbfjoilaa.F Go.Proofs.YtghkgclbfjoilaaW.PrintWords Go.Proofs.YtghkgclbfjoilaaW.PrintLast

theorem FrameNil : rollbooklaw27_FrameNil.Pure := ⟨60, by decide +kernel⟩

end Go.Proofs.Ytghkgclbfjoilaa.Pure
