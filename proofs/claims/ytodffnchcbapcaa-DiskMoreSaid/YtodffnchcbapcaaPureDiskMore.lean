/- Proved: the more changes a crash keeps, the longer what lasts of an area to which was appended alone; no condition beyond the statement's own bounds. -/
import Derived.Test.YtodffnchcbapcaaPDiskMorex2
namespace Go.Proofs.Ytodffnchcbapcaa.Pure
open Go.RowKit Go.Proofs.Ytodffnchcbapcaa.PDiskMore Go.Proofs.YtodffnchcbapcaaW.PrintWords Go.Proofs.YtodffnchcbapcaaW.PrintLast


theorem DiskMore : countermandlaw03_DiskMore.Pure := by
  intro _; rfl
end Go.Proofs.Ytodffnchcbapcaa.Pure
