import Derived.Test.YtkphkjffcpkhjaaDoorSeD0
import Derived.Test.YtkphkjffcpkhjaaDoorSeK0
import Derived.Test.YtkphkjffcpkhjaaDoorSeP1
/-! Small functions' contracts: the runs leave nothing to be shown. -/
noncomputable section
set_option linter.unusedSimpArgs false
set_option linter.unusedVariables false
namespace Go.Proofs.YtkphkjffcpkhjaaDoor
open Go Go.SE
set_option maxRecDepth 1000000

def cA : Ctx := ctxOf [] fun _ _ _ => none
theorem kind_run : allRun cA 100 46 kindKs = true := by kernel_rfl
theorem kind_ok (I : Interp) : ∀ c ∈ kindKs, CtrOk Tryd.prog I 46 c := allRun_ok (ctx_ok (by intro q hq; cases hq)) (by kernel_rfl) kind_run
def wrap1_ob : List Obl := [⟨[(.x (.u .not (.o .eq (.v 0) (.n 0))))], (.q (.u .b2i (.u .not (.o .eq (.v 0) (.n 0)))) (.n 1))⟩,
  ⟨[(.x (.o .eq (.v 0) (.n 0)))], (.q (.u .b2i (.u .not (.o .eq (.v 0) (.n 0)))) (.n 0))⟩]
theorem wrap1_run : runOne cA 100 28 (wrapK 1) ((wrapK 1).outs.headD (.nilp, (wrapK 1).h)) = some wrap1_ob := by kernel_rfl
def wrap3_ob : List Obl := [⟨[], (.q (.u (.wrap .i16) (.v 0)) (.o (.shr .i64) (.o (.shl .i64) (.v 0) (.n 48)) (.n 48)))⟩]
theorem wrap3_run : runOne cA 100 28 (wrapK 3) ((wrapK 3).outs.headD (.nilp, (wrapK 3).h)) = some wrap3_ob := by kernel_rfl
def wrap4_ob : List Obl := [⟨[], (.q (.u (.wrap .i32) (.v 0)) (.o (.shr .i64) (.o (.shl .i64) (.v 0) (.n 32)) (.n 32)))⟩]
theorem wrap4_run : runOne cA 100 28 (wrapK 4) ((wrapK 4).outs.headD (.nilp, (wrapK 4).h)) = some wrap4_ob := by kernel_rfl
def wrap11_ob : List Obl := [⟨[], (.q (.u (.wrap .i32) (.v 0)) (.o (.shr .i64) (.o (.shl .i64) (.v 0) (.n 32)) (.n 32)))⟩]
theorem wrap11_run : runOne cA 100 28 (wrapK 11) ((wrapK 11).outs.headD (.nilp, (wrapK 11).h)) = some wrap11_ob := by kernel_rfl
def tru_ob : List Obl := [⟨[(.x (.v 0))], (.q (.u .b2i (.v 0)) (.n 1))⟩,
  ⟨[(.x (.u .not (.v 0)))], (.q (.u .b2i (.v 0)) (.n 0))⟩]
theorem tru_run : runOne cA 100 134 truthK (truthK.outs.headD (.nilp, truthK.h)) = some tru_ob := by kernel_rfl

theorem bool_ob {w : World} {I : Interp} {x : X} (ob : List Obl) (h : ob = [⟨[(.x (.u .not (.o .eq x (.n 0))))], (.q (.u .b2i (.u .not (.o .eq x (.n 0)))) (.n 1))⟩, ⟨[(.x (.o .eq x (.n 0)))], (.q (.u .b2i (.u .not (.o .eq x (.n 0)))) (.n 0))⟩]) : ∀ o ∈ ob, o.ok ⟨w, I⟩ := by
  subst h
  simp only [List.forall_mem_cons, List.not_mem_nil, false_implies, implies_true, and_true]
  refine ⟨fun ρ _ _ hfs => ?_, fun ρ _ _ hfs => ?_⟩
  all_goals
    simp only [List.forall_mem_cons, List.not_mem_nil, false_implies, implies_true, and_true, Fact.ok, X.den, den_not, asB_b] at hfs
    simp only [Fact.ok, X.den, den_b2i, den_not, asB_b, hfs]
    first | rfl | simp
theorem wrap_ok (I : Interp) : ∀ c ∈ wrapKs, CtrOk Tryd.prog I 28 c := by
  have h0 : CtxOk Tryd.prog I cA := ctx_ok (by intro q hq; cases hq)
  have sh : ∀ (k : IntKind) (n : Int) (w : World), (∀ x, shrZ .i64 (shlZ .i64 x n) n = k.wrap x) → ∀ o ∈ [(⟨[], (.q (.u (.wrap k) (.v 0)) (.o (.shr .i64) (.o (.shl .i64) (.v 0) (.n n)) (.n n)))⟩ : Obl)], o.ok ⟨w, I⟩ := by
    intro k n w h o ho
    simp only [List.mem_singleton] at ho
    subst ho
    intro ρ _ _ _
    simp only [Fact.ok, X.den, den_wrap, den_shl, den_shr, asI_i, h]
  simp only [wrapKs, List.forall_mem_cons, List.not_mem_nil, false_implies, implies_true, and_true]
  exact ⟨.one h0 (by kernel_rfl) wrap1_run List.mem_cons_self fun w => bool_ob _ rfl, .one h0 (by kernel_rfl) wrap3_run List.mem_cons_self fun w => sh .i16 48 w shr_shl_48,
    .one h0 (by kernel_rfl) wrap4_run List.mem_cons_self fun w => sh .i32 32 w shr_shl_32, .one h0 (by kernel_rfl) wrap11_run List.mem_cons_self fun w => sh .i32 32 w shr_shl_32⟩
theorem tru_ok (w : World) (I : Interp) : ∀ o ∈ tru_ob, o.ok ⟨w, I⟩ := by
  unfold tru_ob
  simp only [List.forall_mem_cons, List.not_mem_nil, false_implies, implies_true, and_true]
  refine ⟨fun ρ _ _ hfs => ?_, fun ρ _ _ hfs => ?_⟩
  all_goals
    simp only [List.forall_mem_cons, List.not_mem_nil, false_implies, implies_true, and_true, Fact.ok, X.den, den_not, asB_b, Bool.not_eq_true'] at hfs
    simp only [Fact.ok, X.den, den_b2i, hfs]
    first | rfl | simp
theorem truth_ok (I : Interp) : ∀ c ∈ [truthK], CtrOk Tryd.prog I 134 c := by
  simp only [List.forall_mem_cons, List.not_mem_nil, false_implies, implies_true, and_true]
  exact .one (ctx_ok (by intro q hq; cases hq) : CtxOk Tryd.prog I cA) (by kernel_rfl) tru_run List.mem_cons_self fun w => tru_ok w I
theorem tru2_run : runOne cA 100 44 truthK (truthK.outs.headD (.nilp, truthK.h)) = some tru_ob := by kernel_rfl
theorem truthN_ok (I : Interp) : ∀ c ∈ [truthK], CtrOk Tryd.prog I 44 c := by
  simp only [List.forall_mem_cons, List.not_mem_nil, false_implies, implies_true, and_true]
  exact .one (ctx_ok (by intro q hq; cases hq) : CtxOk Tryd.prog I cA) (by kernel_rfl) tru2_run List.mem_cons_self fun w => tru_ok w I
theorem range_run : allRun cA 100 84 [rangeK] = true := by kernel_rfl
theorem range_ok (I : Interp) : ∀ c ∈ [rangeK], CtrOk Tryd.prog I 84 c := allRun_ok (ctx_ok (by intro q hq; cases hq)) (by kernel_rfl) range_run
end Go.Proofs.YtkphkjffcpkhjaaDoor
end
