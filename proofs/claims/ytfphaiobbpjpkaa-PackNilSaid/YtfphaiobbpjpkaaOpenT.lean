-- Written by rows2.py (a program of this repo) for this seat: how the laws' records and arrays are opened.
import Derived.Test.YtfphaiobbpjpkaaQx0
import Derived.Test.YtfphaiobbpjpkaaOpenC
namespace Go.Proofs.Ytfphaiobbpjpkaa.Q
open Go.RowKit Go.Proofs.YtfphaiobbpjpkaaW.PrintWords Go.Proofs.YtfphaiobbpjpkaaW.PrintLast Go.Proofs.YtfphaiobbpjpkaaW.PrintMore
set_option linter.unusedVariables false
set_option maxRecDepth 100000
theorem cellsOf_37 : Try.prog.cellsOf 37 = 1 := by kernel_rfl
theorem bytes_37 : Try.prog.bytesOf 37 = 4 := by kernel_rfl
theorem cellsOf_9 : Try.prog.cellsOf 9 = 1 := by kernel_rfl
theorem bytes_9 : Try.prog.bytesOf 9 = 16 := by kernel_rfl
end Go.Proofs.Ytfphaiobbpjpkaa.Q
