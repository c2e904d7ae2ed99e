import Derived.Test.YtkphkjffcpkhjaaDoorSeB1
/-! strings.Fields: the contracts: the runs leave nothing to be shown. -/
noncomputable section
set_option linter.unusedSimpArgs false
set_option linter.unusedVariables false
namespace Go.Proofs.YtkphkjffcpkhjaaDoor
open Go Go.SE
set_option maxRecDepth 1000000

theorem fields_run : allRun cA 100 45 fieldsKs = true := by kernel_rfl
theorem fields_ok (I : Interp) : ∀ c ∈ fieldsKs, CtrOk Tryd.prog I 45 c := allRun_ok (ctx_ok (by intro q hq; cases hq)) (by kernel_rfl) fields_run
theorem bookA_ok (I : Interp) : BookOk Tryd.prog I bookA := by
  intro q hq
  simp only [bookA, List.mem_cons, List.not_mem_nil, or_false] at hq
  rcases hq with rfl | rfl
  · exact fields_ok I
  · exact kind_ok I
end Go.Proofs.YtkphkjffcpkhjaaDoor
end
