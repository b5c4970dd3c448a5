/- The pure law of ClockNew: the program's and the reference's answers are the same clock. No conditions. -/
import Derived.Test.YtnnjccecfcppbaaPFnExactClockNewx1
namespace Go.Proofs.Ytnnjccecfcppbaa.Pure
open Go.RowKit Go.Proofs.Ytnnjccecfcppbaa.PFnExactClockNew Go.Proofs.YtnnjccecfcppbaaW.PrintWords Go.Proofs.YtnnjccecfcppbaaW.PrintLast

theorem FnExactClockNew : laws_FnExactClockNew.Pure := by
  intro a0 _
  simp [laws_FnExactClockNew.f, spec_ClockNew.f, impl_ClockNew.f, laws_eqClock.f]

end Go.Proofs.Ytnnjccecfcppbaa.Pure
