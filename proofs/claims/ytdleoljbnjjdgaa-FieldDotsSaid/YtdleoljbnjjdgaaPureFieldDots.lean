/- By the document's answer: every Dot of two lists, and of the same lists when their owner has written them over: for every input the law FieldDots is true. No conditions. -/
import Derived.Test.YtdleoljbnjjdgaaQSFieldDotsx1
namespace Go.Proofs.Ytdleoljbnjjdgaa.Pure
open Go.RowKit Go.Proofs.Ytdleoljbnjjdgaa.QSFieldDots Go.Proofs.YtdleoljbnjjdgaaW.PrintWords Go.Proofs.YtdleoljbnjjdgaaW.PrintLast
theorem FieldDots : dailieslaw04_FieldDots.Pure := by
  intro l0 l1 _ b0 h0 _ b1 h1
  show DotsW.dotsF l0 l1 = some true
  unfold DotsW.dotsF
  rw [if_pos]
  refine ⟨DotsW.okB_iff.2 ⟨by omega, fun x hx => ?_⟩, DotsW.okB_iff.2 ⟨by omega, fun x hx => ?_⟩⟩
  · obtain ⟨n, rfl, hn⟩ := DotsM.u8_nat (h0 x hx); omega
  · obtain ⟨n, rfl, hn⟩ := DotsM.u8_nat (h1 x hx); omega
end Go.Proofs.Ytdleoljbnjjdgaa.Pure
