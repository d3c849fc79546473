/- Proved: what was read stays read: told again it is found; changed, it is told no more; no condition beyond the statement's own bounds. -/
import Derived.Test.YtfoefgckjaafnaaPReadsStaysx2
namespace Go.Proofs.Ytfoefgckjaafnaa.Pure
open Go.RowKit Go.Proofs.Ytfoefgckjaafnaa.PReadsStays Go.Proofs.YtfoefgckjaafnaaW.PrintWords Go.Proofs.YtfoefgckjaafnaaW.PrintLast

theorem ReadsStays : countermandlaw12_ReadsStays.Pure := by
  intro a l
  obtain ⟨b, hb, hf⟩ := great_ev a l
  obtain ⟨k, hk⟩ := Ev.rounds hb
  exact ⟨k, b, hk, hf⟩
end Go.Proofs.Ytfoefgckjaafnaa.Pure
