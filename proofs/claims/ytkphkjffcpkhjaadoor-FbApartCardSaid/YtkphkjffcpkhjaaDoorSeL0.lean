import Derived.Test.YtkphkjffcpkhjaaDoorSeS1
import Derived.Test.YtkphkjffcpkhjaaDoorSeS4
import Derived.Test.YtkphkjffcpkhjaaDoorSe28
import Derived.Test.YtkphkjffcpkhjaaDoorSeK2
/-! known: it tells true. -/
noncomputable section
set_option linter.unusedSimpArgs false
set_option linter.unusedVariables false
namespace Go.Proofs.YtkphkjffcpkhjaaDoor
open Go Go.SE
set_option maxRecDepth 1000000
theorem bookN_ok {I : Interp} (h1 : ∀ u, I.f 1 u = fbF 1 u) (h4 : ∀ u, I.f 4 u = fbF 4 u) : BookOk Tryd.prog I bookN := by
  intro q hq
  simp only [bookN, List.mem_cons, List.not_mem_nil, or_false] at hq
  subst hq
  simp only [List.forall_mem_cons, List.not_mem_nil, false_implies, implies_true, and_true]
  exact ⟨ton_ft_ok h1, ton_ff_ok h1, ctu_ft_ok h4, ctu_ff_ok h4⟩
def cN : Ctx := ctxOf bookN fun _ _ _ => none
theorem known_chk : chkOne fbF cN 100 12 knownK (knownK.outs.headD (.nilp, knownK.h)) = true := by kernel_rfl
theorem known_ok {I : Interp} (hI : I.f = fbF) : CtrOk Tryd.prog I 12 knownK :=
  .chk (ctx_ok (bookN_ok (fun u => by rw [hI]) fun u => by rw [hI])) (by kernel_rfl) known_chk hI List.mem_cons_self
end Go.Proofs.YtkphkjffcpkhjaaDoor
end
