/- Proved: in every row of reads and changes each answer, what was read, and the stamp, are the document's; Of tells each thing's version; a nil set; no condition beyond the statement's own bounds. -/
import Derived.Test.YtfoefgckjaafnaaPReadsNotesx3
namespace Go.Proofs.Ytfoefgckjaafnaa.Pure
open Go.RowKit Go.Proofs.Ytfoefgckjaafnaa.PReadsNotes Go.Proofs.YtfoefgckjaafnaaW.PrintWords Go.Proofs.YtfoefgckjaafnaaW.PrintLast

theorem ReadsNotes : countermandlaw12_ReadsNotes.Pure := by
  intro a l
  obtain ⟨b, hb, hf⟩ := great_ev a l
  obtain ⟨k, hk⟩ := Ev.rounds hb
  exact ⟨k, b, hk, hf⟩
end Go.Proofs.Ytfoefgckjaafnaa.Pure
