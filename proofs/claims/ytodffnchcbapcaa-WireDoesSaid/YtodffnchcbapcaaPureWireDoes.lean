/- Proved: in every script each answer, and all that is told of each socket, are the document's, and those of a nil wire, too; no condition beyond the statement's own bounds. -/
import Derived.Test.YtodffnchcbapcaaPWireDoesx3
namespace Go.Proofs.Ytodffnchcbapcaa.Pure
open Go.RowKit Go.Proofs.Ytodffnchcbapcaa.PWireDoes Go.Proofs.YtodffnchcbapcaaW.PrintWords Go.Proofs.YtodffnchcbapcaaW.PrintLast


theorem WireDoes : countermandlaw06_WireDoes.Pure := by
  intro l
  obtain ⟨b, hb, hf⟩ := great_ev l
  obtain ⟨k, hk⟩ := Ev.rounds hb
  exact ⟨k, b, hk, hf⟩

end Go.Proofs.Ytodffnchcbapcaa.Pure
