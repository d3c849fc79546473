/- Proved: as long as Note answers true, all that was read was so at one time: at the stamp, whatever was changed between; no condition beyond the statement's own bounds. -/
import Derived.Test.YtfoefgckjaafnaaPReadsOncex2
namespace Go.Proofs.Ytfoefgckjaafnaa.Pure
open Go.RowKit Go.Proofs.Ytfoefgckjaafnaa.PReadsOnce Go.Proofs.YtfoefgckjaafnaaW.PrintWords Go.Proofs.YtfoefgckjaafnaaW.PrintLast

theorem ReadsOnce : countermandlaw12_ReadsOnce.Pure := by
  intro a l
  obtain ⟨b, hb, hf⟩ := great_ev a l
  obtain ⟨k, hk⟩ := Ev.rounds hb
  exact ⟨k, b, hk, hf⟩
end Go.Proofs.Ytfoefgckjaafnaa.Pure
