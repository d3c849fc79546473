/- Proved: what is done with one socket plays no part at another one; no condition beyond the statement's own bounds. -/
import Derived.Test.YtodffnchcbapcaaPWireApartx3
namespace Go.Proofs.Ytodffnchcbapcaa.Pure
open Go.RowKit Go.Proofs.Ytodffnchcbapcaa.PWireApart Go.Proofs.YtodffnchcbapcaaW.PrintWords Go.Proofs.YtodffnchcbapcaaW.PrintLast


theorem WireApart : countermandlaw06_WireApart.Pure := by
  intro l
  obtain ⟨b, hb, hf⟩ := great_ev l
  obtain ⟨k, hk⟩ := Ev.rounds hb
  exact ⟨k, b, hk, hf⟩

end Go.Proofs.Ytodffnchcbapcaa.Pure
