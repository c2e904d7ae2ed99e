import Derived.Test.YtkphkjffcpkhjaaDoorSeD0
import Derived.Test.YtkphkjffcpkhjaaDoorSeB3
/-! types.Pins, types.Pin at each block's pins. -/
noncomputable section
set_option linter.unusedSimpArgs false
set_option linter.unusedVariables false
namespace Go.Proofs.YtkphkjffcpkhjaaDoor
open Go Go.SE
set_option maxRecDepth 1000000

def cB : Ctx := ctxOf bookA fun _ _ _ => none
theorem pins_run : allRun cB 100 27 pinsKs = true := by kernel_rfl
theorem pins_ok (I : Interp) : ∀ c ∈ pinsKs, CtrOk Tryd.prog I 27 c := allRun_ok (ctx_ok (bookA_ok I)) (by kernel_rfl) pins_run
theorem pin_run : allRun cB 100 30 pinKs = true := by kernel_rfl
theorem pin_ok (I : Interp) : ∀ c ∈ pinKs, CtrOk Tryd.prog I 30 c := allRun_ok (ctx_ok (bookA_ok I)) (by kernel_rfl) pin_run
theorem book0_ok (I : Interp) : BookOk Tryd.prog I book0 := by
  intro q hq
  simp only [book0, List.mem_cons, List.not_mem_nil, or_false] at hq
  rcases hq with rfl | rfl | rfl | rfl | rfl | rfl
  · exact wrap_ok I
  · exact pin_ok I
  · exact pins_ok I
  · exact truth_ok I
  · exact truthN_ok I
  · exact range_ok I
end Go.Proofs.YtkphkjffcpkhjaaDoor
end
