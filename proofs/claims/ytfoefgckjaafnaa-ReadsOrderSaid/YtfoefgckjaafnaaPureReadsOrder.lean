/- Proved: what was read is told in the order in which it was first read, each thing once; once more changes nothing; no condition beyond the statement's own bounds. -/
import Derived.Test.YtfoefgckjaafnaaPReadsOrderx2
namespace Go.Proofs.Ytfoefgckjaafnaa.Pure
open Go.RowKit Go.Proofs.Ytfoefgckjaafnaa.PReadsOrder Go.Proofs.YtfoefgckjaafnaaW.PrintWords Go.Proofs.YtfoefgckjaafnaaW.PrintLast

theorem ReadsOrder : countermandlaw12_ReadsOrder.Pure := by
  intro a l
  obtain ⟨b, hb, hf⟩ := great_ev a l
  obtain ⟨k, hk⟩ := Ev.rounds hb
  exact ⟨k, b, hk, hf⟩
end Go.Proofs.Ytfoefgckjaafnaa.Pure
