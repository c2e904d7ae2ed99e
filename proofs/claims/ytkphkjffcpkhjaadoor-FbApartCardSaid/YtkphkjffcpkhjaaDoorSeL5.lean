import Derived.Test.YtkphkjffcpkhjaaDoorSeL0
import Derived.Test.YtkphkjffcpkhjaaDoorSeK3
import Derived.Test.YtkphkjffcpkhjaaDoorSeS1
import Derived.Test.YtkphkjffcpkhjaaDoorSeS2
import Derived.Test.YtkphkjffcpkhjaaDoorSeS3
import Derived.Test.YtkphkjffcpkhjaaDoorSeS4
import Derived.Test.YtkphkjffcpkhjaaDoorSeS5
import Derived.Test.YtkphkjffcpkhjaaDoorSeS6
import Derived.Test.YtkphkjffcpkhjaaDoorSeS7
import Derived.Test.YtkphkjffcpkhjaaDoorSeS8
import Derived.Test.YtkphkjffcpkhjaaDoorSeS9
import Derived.Test.YtkphkjffcpkhjaaDoorSeS10
/-! FbApart: the walk. -/
noncomputable section
set_option linter.unusedSimpArgs false
set_option linter.unusedVariables false
namespace Go.SE
/-- what FbApart's contracts are said over: no predicate is asked for. -/
def IA : Interp := ⟨fbF, fun _ _ => True⟩
theorem den_f25 (ρ : Env) (k : Nat) (a b : U) : O2.den ρ (.f k) a b = ρ.f k [a, b] := rfl
theorem den_rem5 (ρ : Env) (a b : U) : O2.den ρ .rem a b = .i (a.asI.tmod b.asI) := rfl
variable {P : Program} {I : Interp}
theorem CtrOk.cases5 {i : Nat} {c : Ctr} (hc : CtrOk P I i c) {k : IntKind} {x : X} {h : H} (ho : c.outs = [(.int k x, h)]) {l : List Nat} (hl : ∀ ρ : Env, ρ.f = I.f → ∃ n ∈ l, (x.den ρ).asI = (n : Int)) :
    CtrOk P I i { c with outs := l.map fun (j : Nat) => (SV.int k (.n (j : Int)), h) } := by
  intro w0 hw B ρ σ w vs hr hv
  refine (hc w0 hw B ρ σ w vs hr hv).mono ?_
  rintro e w' ⟨q, hq, ρ', σ', v, rfl, h1, h2, h3, h4⟩
  rw [ho, List.mem_singleton] at hq
  subst hq
  obtain ⟨n, hn, hx⟩ := hl ρ' (h1.f.trans (hr.now.ip.1.trans (by rw [hw])))
  refine ⟨_, List.mem_map_of_mem hn, ρ', σ', v, rfl, h1, h2, h3, fun ρ2 σ2 _ => ?_⟩
  have := h4 _ _ (Ext.refl _ _ _)
  simp only [List.map_cons, List.map_nil, SV.val, List.cons.injEq, and_true] at this ⊢
  rw [← this, hx]; rfl
end Go.SE
namespace Go.Proofs.YtkphkjffcpkhjaaDoor
open Go Go.SE
set_option maxRecDepth 1000000
def place10a_ob : List Obl := [⟨[(.x (.o .lt (.o .rem (.v 0) (.n 10)) (.n 0)))], (.q (.o (.f 20) (.v 0) (.n 10)) (.u (.wrap .i64) (.o .add (.o .rem (.v 0) (.n 10)) (.n 10))))⟩,
  ⟨[(.x (.u .not (.o .lt (.o .rem (.v 0) (.n 10)) (.n 0))))], (.q (.o (.f 20) (.v 0) (.n 10)) (.o .rem (.v 0) (.n 10)))⟩]
theorem place10a_run : runOne cA 100 14 (placeK 10) (((placeK 10)).outs.headD (.nilp, ((placeK 10)).h)) = some place10a_ob := by kernel_rfl
theorem place10a_all (I : Interp) (hI : ∀ u, I.f 20 u = fbF 20 u) (w : World) : ∀ o ∈ place10a_ob, o.ok ⟨w, I⟩ := by
  unfold place10a_ob
  simp only [List.forall_mem_cons, List.not_mem_nil, false_implies, implies_true, and_true]
  refine ⟨?_, ?_⟩
  all_goals
    intro ρ hf _ hfs
    have hF : ∀ u, ρ.f 20 u = fbF 20 u := fun u => by rw [hf]; exact hI u
    simp only [List.forall_mem_cons, List.not_mem_nil, false_implies, implies_true, and_true, Fact.ok, X.den, den_not, den_b2i, den_wrap, den_get, den_lt, den_le, den_eq, den_eqb, den_min, den_max, den_add, den_sub, den_len, den_cons, den_fld, den_rem5, asB_b, asI_i, asL_l, Bool.not_eq_true', ilt_iff, ile_iff, ieq_iff, ilt_f, ile_f, ieq_f, w32_def, w16_def, w64_def] at hfs
    simp only [Fact.ok, X.den, den_not, den_b2i, den_wrap, den_get, den_lt, den_le, den_eq, den_eqb, den_min, den_max, den_add, den_sub, den_len, den_cons, den_fld, den_rem5, asB_b, asI_i, asL_l, Bool.not_eq_true', ilt_iff, ile_iff, ieq_iff, ilt_f, ile_f, ieq_f, w32_def, w16_def, w64_def, den_f25, hF, fbF]
    refine congrArg U.i ?_
    have h2 := Int.tmod_def (ρ.v 0).asI 10
    have h3 := Int.emod_def (ρ.v 0).asI 10
    have h4 : (ρ.v 0).asI.tmod 10 = (ρ.v 0).asI % 10 ∨ (ρ.v 0).asI.tmod 10 = (ρ.v 0).asI % 10 - 10 := by
      rcases Int.lt_or_le (ρ.v 0).asI 0 with h | h
      · rw [Int.tmod_eq_emod]; split <;> omega
      · left; exact Int.tmod_eq_emod_of_nonneg h
    first | (rw [w64_id (by omega) (by omega)]; omega) | omega
theorem place10a_ok {I : Interp} (hI : ∀ u, I.f 20 u = fbF 20 u) : CtrOk Tryd.prog I 14 (placeC 10) := by
  have h0 : CtxOk Tryd.prog I cA := ctx_ok (by intro q hq; cases hq)
  have h1 : CtrOk Tryd.prog I 14 (placeK 10) := .one h0 (by kernel_rfl) place10a_run List.mem_cons_self (place10a_all I hI)
  refine h1.cases5 (l := List.range 10) rfl fun ρ hf => ?_
  have h2 : ((X.den ρ (.o (.f 20) (.v 0) (.n 10))).asI) = (ρ.v 0).asI % 10 := by simp only [X.den, den_f25, hf, hI, fbF, asI_i]
  refine ⟨((ρ.v 0).asI % 10).toNat, by rw [List.mem_range]; omega, h2.trans (by omega)⟩
def cNu : Ctx := ctxOf [] lpNums
def numsVV_ob : List Obl := [⟨[(.x (.o .lt (.v 3) (.u .len (.v 0)))), (.x (.o .lt (.n (-1)) (.v 3))), (.x (.u .not (.o .lt (.n 20) (.u .len (.v 0)))))], (.x (.o .le (.n 0) (.v 3)))⟩,
  ⟨[(.x (.o .lt (.v 3) (.u .len (.v 0)))), (.x (.o .lt (.n (-1)) (.v 3))), (.x (.u .not (.o .lt (.n 20) (.u .len (.v 0)))))], (.x (.o .le (.n 0) (.v 3)))⟩,
  ⟨[(.x (.o .lt (.v 3) (.u .len (.v 0)))), (.x (.o .lt (.n (-1)) (.v 3))), (.x (.u .not (.o .lt (.n 20) (.u .len (.v 0)))))], (.x (.o .le (.n 0) (.v 3)))⟩,
  ⟨[(.x (.o .lt (.v 3) (.u .len (.v 0)))), (.x (.o .lt (.n (-1)) (.v 3))), (.x (.u .not (.o .lt (.n 20) (.u .len (.v 0)))))], (.x (.o .le (.n 0) (.v 3)))⟩,
  ⟨[(.x (.o .lt (.v 3) (.u .len (.v 0)))), (.x (.o .lt (.n (-1)) (.v 3))), (.x (.u .not (.o .lt (.n 20) (.u .len (.v 0)))))], (.x (.o .le (.n 0) (.v 3)))⟩,
  ⟨[(.x (.o .lt (.v 3) (.u .len (.v 0)))), (.x (.o .lt (.n (-1)) (.v 3))), (.x (.u .not (.o .lt (.n 20) (.u .len (.v 0)))))], (.x (.o .le (.n 0) (.v 3)))⟩,
  ⟨[(.x (.o .lt (.v 3) (.u .len (.v 0)))), (.x (.o .lt (.n (-1)) (.v 3))), (.x (.u .not (.o .lt (.n 20) (.u .len (.v 0)))))], (.x (.o .le (.n 0) (.o .sub (.u .len (.v 0)) (.u (.wrap .i64) (.o .add (.v 3) (.n 1))))))⟩,
  ⟨[(.x (.o .lt (.v 3) (.u .len (.v 0)))), (.x (.o .lt (.n (-1)) (.v 3))), (.x (.u .not (.o .lt (.n 20) (.u .len (.v 0)))))], (.x (.o .lt (.o .sub (.u .len (.v 0)) (.u (.wrap .i64) (.o .add (.v 3) (.n 1)))) (.o .sub (.u .len (.v 0)) (.v 3))))⟩,
  ⟨[(.x (.o .lt (.v 3) (.u .len (.v 0)))), (.x (.o .lt (.n (-1)) (.v 3))), (.x (.u .not (.o .lt (.n 20) (.u .len (.v 0)))))], (.x (.o .lt (.n (-1)) (.u (.wrap .i64) (.o .add (.v 3) (.n 1)))))⟩]
theorem numsVV_run : runOne cNu 100 18 numsK ((numsK).outs.headD (.nilp, (numsK).h)) = some numsVV_ob := by kernel_rfl
def numsNN_ob : List Obl := []
theorem numsNN_run : runOne cNu 100 18 numsNN ((numsNN).outs.headD (.nilp, (numsNN).h)) = some numsNN_ob := by kernel_rfl
def numsNE_ob : List Obl := []
theorem numsNE_run : runOne cNu 100 18 numsNE ((numsNE).outs.headD (.nilp, (numsNE).h)) = some numsNE_ob := by kernel_rfl
theorem numsVV_all (w : World) : ∀ o ∈ numsVV_ob, o.ok ⟨w, IA⟩ := by
  unfold numsVV_ob
  simp only [List.forall_mem_cons, List.not_mem_nil, false_implies, implies_true, and_true]
  refine ⟨?_, ?_, ?_, ?_, ?_, ?_, ?_, ?_, ?_⟩
  all_goals
    intro ρ _ _ hfs
    simp only [List.forall_mem_cons, List.not_mem_nil, false_implies, implies_true, and_true, Fact.ok, X.den, O2.den, O1.den, den_wrap, asB_b, asI_i, Bool.not_eq_true', ilt_iff, ile_iff, ieq_iff, ilt_f, ile_f, w64_def] at hfs
    simp only [Fact.ok, X.den, O2.den, O1.den, den_wrap, asB_b, asI_i, Bool.not_eq_true', ilt_iff, ile_iff, ieq_iff, ilt_f, ile_f, w64_def]
    have e := w64_id (n := (ρ.v 3).asI + 1) (by omega) (by omega)
    try rw [e]
    omega
theorem nums_ok : ∀ c ∈ [numsK, numsNN, numsNE], CtrOk Tryd.prog IA 18 c := by
  simp only [List.forall_mem_cons, List.not_mem_nil, false_implies, implies_true, and_true]; exact ⟨.one (ctx_ok (by intro q hq; cases hq)) (by kernel_rfl) numsVV_run List.mem_cons_self numsVV_all, .one (ctx_ok (by intro q hq; cases hq)) (by kernel_rfl) numsNN_run List.mem_cons_self (fun _ o ho => by cases ho), .one (ctx_ok (by intro q hq; cases hq)) (by kernel_rfl) numsNE_run List.mem_cons_self (fun _ o ho => by cases ho)⟩
theorem bookAp_ok : BookOk Tryd.prog IA bookAp := by
  intro q hq
  simp only [bookAp, List.mem_cons, List.not_mem_nil, or_false] at hq
  rcases hq with rfl | rfl | rfl | rfl
  · simp only [List.forall_mem_cons, List.not_mem_nil, false_implies, implies_true, and_true]; exact known_ok rfl
  · simp only [List.forall_mem_cons, List.not_mem_nil, false_implies, implies_true, and_true]; exact place10a_ok fun _ => rfl
  · exact nums_ok
  · simp only [stepKs, List.cons_append, List.nil_append, List.forall_mem_cons, List.not_mem_nil, false_implies, implies_true, and_true]
    exact ⟨ton_ff_ok fun _ => rfl, ton_ft_ok fun _ => rfl, ton_tf_ok fun _ => rfl, ton_tt_ok fun _ => rfl, tof_ff_ok fun _ => rfl, tof_ft_ok fun _ => rfl, tof_tf_ok fun _ => rfl, tof_tt_ok fun _ => rfl, tp_ff_ok fun _ => rfl, tp_ft_ok fun _ => rfl, tp_tf_ok fun _ => rfl, tp_tt_ok fun _ => rfl, ctu_ff_ok fun _ => rfl, ctu_ft_ok fun _ => rfl, ctu_tf_ok fun _ => rfl, ctu_tt_ok fun _ => rfl, ctd_ff_ok fun _ => rfl, ctd_ft_ok fun _ => rfl, ctd_tf_ok fun _ => rfl, ctd_tt_ok fun _ => rfl, ctud_ff_ok fun _ => rfl, ctud_ft_ok fun _ => rfl, ctud_tf_ok fun _ => rfl, ctud_tt_ok fun _ => rfl, rtrig_ff_ok fun _ => rfl, rtrig_ft_ok fun _ => rfl, rtrig_tf_ok fun _ => rfl, rtrig_tt_ok fun _ => rfl, ftrig_ff_ok fun _ => rfl, ftrig_ft_ok fun _ => rfl, ftrig_tf_ok fun _ => rfl, ftrig_tt_ok fun _ => rfl, sr_ff_ok fun _ => rfl, sr_ft_ok fun _ => rfl, sr_tf_ok fun _ => rfl, sr_tt_ok fun _ => rfl, rs_ff_ok fun _ => rfl, rs_ft_ok fun _ => rfl, rs_tf_ok fun _ => rfl, rs_tt_ok fun _ => rfl⟩
def cAp : Ctx := ctxOf bookAp fun _ _ _ => none
def apart00_ob : List Obl := []
theorem apart00_run : runOne cAp 100 5 (apartK 0 0) (((apartK 0 0)).outs.headD (.nilp, ((apartK 0 0)).h)) = some apart00_ob := by kernel_rfl
def apart01_ob : List Obl := []
theorem apart01_run : runOne cAp 100 5 (apartK 0 1) (((apartK 0 1)).outs.headD (.nilp, ((apartK 0 1)).h)) = some apart01_ob := by kernel_rfl
def apart02_ob : List Obl := [⟨[(.x (.u .not (.o .lt (.n 20) (.u .len (.v 7))))), (.x (.o .lt (.n 0) (.u .len (.v 7))))], (.x (.o .le (.o .mul (.u .len (.v 7)) (.n 8)) (.n 140737488355328)))⟩,
  ⟨[(.x (.u .not (.o .lt (.n 20) (.u .len (.v 7))))), (.x (.o .lt (.n 0) (.u .len (.v 7))))], (.x (.o .le (.u .len (.v 7)) (.n 9223372036854775807)))⟩,
  ⟨[(.x (.u .not (.o .lt (.n 20) (.u .len (.v 7))))), (.x (.o .lt (.n 0) (.u .len (.v 7))))], (.x (.o .le (.o .mul (.u .len (.v 7)) (.n 8)) (.n 140737488355328)))⟩,
  ⟨[(.x (.u .not (.o .lt (.n 20) (.u .len (.v 7))))), (.x (.o .lt (.n 0) (.u .len (.v 7))))], (.x (.o .le (.u .len (.v 7)) (.n 9223372036854775807)))⟩,
  ⟨[(.x (.u .not (.o .lt (.n 20) (.u .len (.v 7))))), (.x (.o .lt (.n 0) (.u .len (.v 7))))], (.x (.o .le (.o .mul (.u .len (.v 7)) (.n 8)) (.n 140737488355328)))⟩,
  ⟨[(.x (.u .not (.o .lt (.n 20) (.u .len (.v 7))))), (.x (.o .lt (.n 0) (.u .len (.v 7))))], (.x (.o .le (.u .len (.v 7)) (.n 9223372036854775807)))⟩,
  ⟨[(.x (.u .not (.o .lt (.n 20) (.u .len (.v 7))))), (.x (.o .lt (.n 0) (.u .len (.v 7))))], (.x (.o .le (.o .mul (.u .len (.v 7)) (.n 8)) (.n 140737488355328)))⟩,
  ⟨[(.x (.u .not (.o .lt (.n 20) (.u .len (.v 7))))), (.x (.o .lt (.n 0) (.u .len (.v 7))))], (.x (.o .le (.u .len (.v 7)) (.n 9223372036854775807)))⟩,
  ⟨[(.x (.u .not (.o .lt (.n 20) (.u .len (.v 7))))), (.x (.o .lt (.n 0) (.u .len (.v 7))))], (.x (.o .le (.o .mul (.u .len (.v 7)) (.n 8)) (.n 140737488355328)))⟩,
  ⟨[(.x (.u .not (.o .lt (.n 20) (.u .len (.v 7))))), (.x (.o .lt (.n 0) (.u .len (.v 7))))], (.x (.o .le (.u .len (.v 7)) (.n 9223372036854775807)))⟩,
  ⟨[(.x (.u .not (.o .lt (.n 20) (.u .len (.v 7))))), (.x (.o .lt (.n 0) (.u .len (.v 7))))], (.x (.o .le (.o .mul (.u .len (.v 7)) (.n 8)) (.n 140737488355328)))⟩,
  ⟨[(.x (.u .not (.o .lt (.n 20) (.u .len (.v 7))))), (.x (.o .lt (.n 0) (.u .len (.v 7))))], (.x (.o .le (.u .len (.v 7)) (.n 9223372036854775807)))⟩,
  ⟨[(.x (.u .not (.o .lt (.n 20) (.u .len (.v 7))))), (.x (.o .lt (.n 0) (.u .len (.v 7))))], (.x (.o .le (.o .mul (.u .len (.v 7)) (.n 8)) (.n 140737488355328)))⟩,
  ⟨[(.x (.u .not (.o .lt (.n 20) (.u .len (.v 7))))), (.x (.o .lt (.n 0) (.u .len (.v 7))))], (.x (.o .le (.u .len (.v 7)) (.n 9223372036854775807)))⟩,
  ⟨[(.x (.u .not (.o .lt (.n 20) (.u .len (.v 7))))), (.x (.o .lt (.n 0) (.u .len (.v 7))))], (.x (.o .le (.o .mul (.u .len (.v 7)) (.n 8)) (.n 140737488355328)))⟩,
  ⟨[(.x (.u .not (.o .lt (.n 20) (.u .len (.v 7))))), (.x (.o .lt (.n 0) (.u .len (.v 7))))], (.x (.o .le (.u .len (.v 7)) (.n 9223372036854775807)))⟩,
  ⟨[(.x (.u .not (.o .lt (.n 20) (.u .len (.v 7))))), (.x (.o .lt (.n 0) (.u .len (.v 7))))], (.x (.o .le (.o .mul (.u .len (.v 7)) (.n 8)) (.n 140737488355328)))⟩,
  ⟨[(.x (.u .not (.o .lt (.n 20) (.u .len (.v 7))))), (.x (.o .lt (.n 0) (.u .len (.v 7))))], (.x (.o .le (.u .len (.v 7)) (.n 9223372036854775807)))⟩,
  ⟨[(.x (.u .not (.o .lt (.n 20) (.u .len (.v 7))))), (.x (.o .lt (.n 0) (.u .len (.v 7))))], (.x (.o .le (.o .mul (.u .len (.v 7)) (.n 8)) (.n 140737488355328)))⟩,
  ⟨[(.x (.u .not (.o .lt (.n 20) (.u .len (.v 7))))), (.x (.o .lt (.n 0) (.u .len (.v 7))))], (.x (.o .le (.u .len (.v 7)) (.n 9223372036854775807)))⟩]
theorem apart02_run : runOne cAp 100 5 (apartK 0 2) (((apartK 0 2)).outs.headD (.nilp, ((apartK 0 2)).h)) = some apart02_ob := by kernel_rfl
def apart10_ob : List Obl := []
theorem apart10_run : runOne cAp 100 5 (apartK 1 0) (((apartK 1 0)).outs.headD (.nilp, ((apartK 1 0)).h)) = some apart10_ob := by kernel_rfl
def apart11_ob : List Obl := []
theorem apart11_run : runOne cAp 100 5 (apartK 1 1) (((apartK 1 1)).outs.headD (.nilp, ((apartK 1 1)).h)) = some apart11_ob := by kernel_rfl
def apart12_ob : List Obl := [⟨[(.x (.u .not (.o .lt (.n 20) (.u .len (.v 7))))), (.x (.o .lt (.n 0) (.u .len (.v 7))))], (.x (.o .le (.o .mul (.u .len (.v 7)) (.n 8)) (.n 140737488355328)))⟩,
  ⟨[(.x (.u .not (.o .lt (.n 20) (.u .len (.v 7))))), (.x (.o .lt (.n 0) (.u .len (.v 7))))], (.x (.o .le (.u .len (.v 7)) (.n 9223372036854775807)))⟩,
  ⟨[(.x (.u .not (.o .lt (.n 20) (.u .len (.v 7))))), (.x (.o .lt (.n 0) (.u .len (.v 7))))], (.x (.o .le (.o .mul (.u .len (.v 7)) (.n 8)) (.n 140737488355328)))⟩,
  ⟨[(.x (.u .not (.o .lt (.n 20) (.u .len (.v 7))))), (.x (.o .lt (.n 0) (.u .len (.v 7))))], (.x (.o .le (.u .len (.v 7)) (.n 9223372036854775807)))⟩,
  ⟨[(.x (.u .not (.o .lt (.n 20) (.u .len (.v 7))))), (.x (.o .lt (.n 0) (.u .len (.v 7))))], (.x (.o .le (.o .mul (.u .len (.v 7)) (.n 8)) (.n 140737488355328)))⟩,
  ⟨[(.x (.u .not (.o .lt (.n 20) (.u .len (.v 7))))), (.x (.o .lt (.n 0) (.u .len (.v 7))))], (.x (.o .le (.u .len (.v 7)) (.n 9223372036854775807)))⟩,
  ⟨[(.x (.u .not (.o .lt (.n 20) (.u .len (.v 7))))), (.x (.o .lt (.n 0) (.u .len (.v 7))))], (.x (.o .le (.o .mul (.u .len (.v 7)) (.n 8)) (.n 140737488355328)))⟩,
  ⟨[(.x (.u .not (.o .lt (.n 20) (.u .len (.v 7))))), (.x (.o .lt (.n 0) (.u .len (.v 7))))], (.x (.o .le (.u .len (.v 7)) (.n 9223372036854775807)))⟩,
  ⟨[(.x (.u .not (.o .lt (.n 20) (.u .len (.v 7))))), (.x (.o .lt (.n 0) (.u .len (.v 7))))], (.x (.o .le (.o .mul (.u .len (.v 7)) (.n 8)) (.n 140737488355328)))⟩,
  ⟨[(.x (.u .not (.o .lt (.n 20) (.u .len (.v 7))))), (.x (.o .lt (.n 0) (.u .len (.v 7))))], (.x (.o .le (.u .len (.v 7)) (.n 9223372036854775807)))⟩,
  ⟨[(.x (.u .not (.o .lt (.n 20) (.u .len (.v 7))))), (.x (.o .lt (.n 0) (.u .len (.v 7))))], (.x (.o .le (.o .mul (.u .len (.v 7)) (.n 8)) (.n 140737488355328)))⟩,
  ⟨[(.x (.u .not (.o .lt (.n 20) (.u .len (.v 7))))), (.x (.o .lt (.n 0) (.u .len (.v 7))))], (.x (.o .le (.u .len (.v 7)) (.n 9223372036854775807)))⟩,
  ⟨[(.x (.u .not (.o .lt (.n 20) (.u .len (.v 7))))), (.x (.o .lt (.n 0) (.u .len (.v 7))))], (.x (.o .le (.o .mul (.u .len (.v 7)) (.n 8)) (.n 140737488355328)))⟩,
  ⟨[(.x (.u .not (.o .lt (.n 20) (.u .len (.v 7))))), (.x (.o .lt (.n 0) (.u .len (.v 7))))], (.x (.o .le (.u .len (.v 7)) (.n 9223372036854775807)))⟩,
  ⟨[(.x (.u .not (.o .lt (.n 20) (.u .len (.v 7))))), (.x (.o .lt (.n 0) (.u .len (.v 7))))], (.x (.o .le (.o .mul (.u .len (.v 7)) (.n 8)) (.n 140737488355328)))⟩,
  ⟨[(.x (.u .not (.o .lt (.n 20) (.u .len (.v 7))))), (.x (.o .lt (.n 0) (.u .len (.v 7))))], (.x (.o .le (.u .len (.v 7)) (.n 9223372036854775807)))⟩,
  ⟨[(.x (.u .not (.o .lt (.n 20) (.u .len (.v 7))))), (.x (.o .lt (.n 0) (.u .len (.v 7))))], (.x (.o .le (.o .mul (.u .len (.v 7)) (.n 8)) (.n 140737488355328)))⟩,
  ⟨[(.x (.u .not (.o .lt (.n 20) (.u .len (.v 7))))), (.x (.o .lt (.n 0) (.u .len (.v 7))))], (.x (.o .le (.u .len (.v 7)) (.n 9223372036854775807)))⟩,
  ⟨[(.x (.u .not (.o .lt (.n 20) (.u .len (.v 7))))), (.x (.o .lt (.n 0) (.u .len (.v 7))))], (.x (.o .le (.o .mul (.u .len (.v 7)) (.n 8)) (.n 140737488355328)))⟩,
  ⟨[(.x (.u .not (.o .lt (.n 20) (.u .len (.v 7))))), (.x (.o .lt (.n 0) (.u .len (.v 7))))], (.x (.o .le (.u .len (.v 7)) (.n 9223372036854775807)))⟩]
theorem apart12_run : runOne cAp 100 5 (apartK 1 2) (((apartK 1 2)).outs.headD (.nilp, ((apartK 1 2)).h)) = some apart12_ob := by kernel_rfl
def apart20_ob : List Obl := [⟨[(.x (.u .not (.o .lt (.n 20) (.u .len (.v 5))))), (.x (.o .lt (.n 0) (.u .len (.v 5))))], (.x (.o .le (.o .mul (.u .len (.v 5)) (.n 8)) (.n 140737488355328)))⟩,
  ⟨[(.x (.u .not (.o .lt (.n 20) (.u .len (.v 5))))), (.x (.o .lt (.n 0) (.u .len (.v 5))))], (.x (.o .le (.u .len (.v 5)) (.n 9223372036854775807)))⟩,
  ⟨[(.x (.u .not (.o .lt (.n 20) (.u .len (.v 5))))), (.x (.o .lt (.n 0) (.u .len (.v 5))))], (.x (.o .le (.o .mul (.u .len (.v 5)) (.n 8)) (.n 140737488355328)))⟩,
  ⟨[(.x (.u .not (.o .lt (.n 20) (.u .len (.v 5))))), (.x (.o .lt (.n 0) (.u .len (.v 5))))], (.x (.o .le (.u .len (.v 5)) (.n 9223372036854775807)))⟩,
  ⟨[(.x (.u .not (.o .lt (.n 20) (.u .len (.v 5))))), (.x (.o .lt (.n 0) (.u .len (.v 5))))], (.x (.o .le (.o .mul (.u .len (.v 5)) (.n 8)) (.n 140737488355328)))⟩,
  ⟨[(.x (.u .not (.o .lt (.n 20) (.u .len (.v 5))))), (.x (.o .lt (.n 0) (.u .len (.v 5))))], (.x (.o .le (.u .len (.v 5)) (.n 9223372036854775807)))⟩,
  ⟨[(.x (.u .not (.o .lt (.n 20) (.u .len (.v 5))))), (.x (.o .lt (.n 0) (.u .len (.v 5))))], (.x (.o .le (.o .mul (.u .len (.v 5)) (.n 8)) (.n 140737488355328)))⟩,
  ⟨[(.x (.u .not (.o .lt (.n 20) (.u .len (.v 5))))), (.x (.o .lt (.n 0) (.u .len (.v 5))))], (.x (.o .le (.u .len (.v 5)) (.n 9223372036854775807)))⟩,
  ⟨[(.x (.u .not (.o .lt (.n 20) (.u .len (.v 5))))), (.x (.o .lt (.n 0) (.u .len (.v 5))))], (.x (.o .le (.o .mul (.u .len (.v 5)) (.n 8)) (.n 140737488355328)))⟩,
  ⟨[(.x (.u .not (.o .lt (.n 20) (.u .len (.v 5))))), (.x (.o .lt (.n 0) (.u .len (.v 5))))], (.x (.o .le (.u .len (.v 5)) (.n 9223372036854775807)))⟩,
  ⟨[(.x (.u .not (.o .lt (.n 20) (.u .len (.v 5))))), (.x (.o .lt (.n 0) (.u .len (.v 5))))], (.x (.o .le (.o .mul (.u .len (.v 5)) (.n 8)) (.n 140737488355328)))⟩,
  ⟨[(.x (.u .not (.o .lt (.n 20) (.u .len (.v 5))))), (.x (.o .lt (.n 0) (.u .len (.v 5))))], (.x (.o .le (.u .len (.v 5)) (.n 9223372036854775807)))⟩,
  ⟨[(.x (.u .not (.o .lt (.n 20) (.u .len (.v 5))))), (.x (.o .lt (.n 0) (.u .len (.v 5))))], (.x (.o .le (.o .mul (.u .len (.v 5)) (.n 8)) (.n 140737488355328)))⟩,
  ⟨[(.x (.u .not (.o .lt (.n 20) (.u .len (.v 5))))), (.x (.o .lt (.n 0) (.u .len (.v 5))))], (.x (.o .le (.u .len (.v 5)) (.n 9223372036854775807)))⟩,
  ⟨[(.x (.u .not (.o .lt (.n 20) (.u .len (.v 5))))), (.x (.o .lt (.n 0) (.u .len (.v 5))))], (.x (.o .le (.o .mul (.u .len (.v 5)) (.n 8)) (.n 140737488355328)))⟩,
  ⟨[(.x (.u .not (.o .lt (.n 20) (.u .len (.v 5))))), (.x (.o .lt (.n 0) (.u .len (.v 5))))], (.x (.o .le (.u .len (.v 5)) (.n 9223372036854775807)))⟩,
  ⟨[(.x (.u .not (.o .lt (.n 20) (.u .len (.v 5))))), (.x (.o .lt (.n 0) (.u .len (.v 5))))], (.x (.o .le (.o .mul (.u .len (.v 5)) (.n 8)) (.n 140737488355328)))⟩,
  ⟨[(.x (.u .not (.o .lt (.n 20) (.u .len (.v 5))))), (.x (.o .lt (.n 0) (.u .len (.v 5))))], (.x (.o .le (.u .len (.v 5)) (.n 9223372036854775807)))⟩,
  ⟨[(.x (.u .not (.o .lt (.n 20) (.u .len (.v 5))))), (.x (.o .lt (.n 0) (.u .len (.v 5))))], (.x (.o .le (.o .mul (.u .len (.v 5)) (.n 8)) (.n 140737488355328)))⟩,
  ⟨[(.x (.u .not (.o .lt (.n 20) (.u .len (.v 5))))), (.x (.o .lt (.n 0) (.u .len (.v 5))))], (.x (.o .le (.u .len (.v 5)) (.n 9223372036854775807)))⟩]
theorem apart20_run : runOne cAp 100 5 (apartK 2 0) (((apartK 2 0)).outs.headD (.nilp, ((apartK 2 0)).h)) = some apart20_ob := by kernel_rfl
def apart21_ob : List Obl := [⟨[(.x (.u .not (.o .lt (.n 20) (.u .len (.v 5))))), (.x (.o .lt (.n 0) (.u .len (.v 5))))], (.x (.o .le (.o .mul (.u .len (.v 5)) (.n 8)) (.n 140737488355328)))⟩,
  ⟨[(.x (.u .not (.o .lt (.n 20) (.u .len (.v 5))))), (.x (.o .lt (.n 0) (.u .len (.v 5))))], (.x (.o .le (.u .len (.v 5)) (.n 9223372036854775807)))⟩,
  ⟨[(.x (.u .not (.o .lt (.n 20) (.u .len (.v 5))))), (.x (.o .lt (.n 0) (.u .len (.v 5))))], (.x (.o .le (.o .mul (.u .len (.v 5)) (.n 8)) (.n 140737488355328)))⟩,
  ⟨[(.x (.u .not (.o .lt (.n 20) (.u .len (.v 5))))), (.x (.o .lt (.n 0) (.u .len (.v 5))))], (.x (.o .le (.u .len (.v 5)) (.n 9223372036854775807)))⟩,
  ⟨[(.x (.u .not (.o .lt (.n 20) (.u .len (.v 5))))), (.x (.o .lt (.n 0) (.u .len (.v 5))))], (.x (.o .le (.o .mul (.u .len (.v 5)) (.n 8)) (.n 140737488355328)))⟩,
  ⟨[(.x (.u .not (.o .lt (.n 20) (.u .len (.v 5))))), (.x (.o .lt (.n 0) (.u .len (.v 5))))], (.x (.o .le (.u .len (.v 5)) (.n 9223372036854775807)))⟩,
  ⟨[(.x (.u .not (.o .lt (.n 20) (.u .len (.v 5))))), (.x (.o .lt (.n 0) (.u .len (.v 5))))], (.x (.o .le (.o .mul (.u .len (.v 5)) (.n 8)) (.n 140737488355328)))⟩,
  ⟨[(.x (.u .not (.o .lt (.n 20) (.u .len (.v 5))))), (.x (.o .lt (.n 0) (.u .len (.v 5))))], (.x (.o .le (.u .len (.v 5)) (.n 9223372036854775807)))⟩,
  ⟨[(.x (.u .not (.o .lt (.n 20) (.u .len (.v 5))))), (.x (.o .lt (.n 0) (.u .len (.v 5))))], (.x (.o .le (.o .mul (.u .len (.v 5)) (.n 8)) (.n 140737488355328)))⟩,
  ⟨[(.x (.u .not (.o .lt (.n 20) (.u .len (.v 5))))), (.x (.o .lt (.n 0) (.u .len (.v 5))))], (.x (.o .le (.u .len (.v 5)) (.n 9223372036854775807)))⟩,
  ⟨[(.x (.u .not (.o .lt (.n 20) (.u .len (.v 5))))), (.x (.o .lt (.n 0) (.u .len (.v 5))))], (.x (.o .le (.o .mul (.u .len (.v 5)) (.n 8)) (.n 140737488355328)))⟩,
  ⟨[(.x (.u .not (.o .lt (.n 20) (.u .len (.v 5))))), (.x (.o .lt (.n 0) (.u .len (.v 5))))], (.x (.o .le (.u .len (.v 5)) (.n 9223372036854775807)))⟩,
  ⟨[(.x (.u .not (.o .lt (.n 20) (.u .len (.v 5))))), (.x (.o .lt (.n 0) (.u .len (.v 5))))], (.x (.o .le (.o .mul (.u .len (.v 5)) (.n 8)) (.n 140737488355328)))⟩,
  ⟨[(.x (.u .not (.o .lt (.n 20) (.u .len (.v 5))))), (.x (.o .lt (.n 0) (.u .len (.v 5))))], (.x (.o .le (.u .len (.v 5)) (.n 9223372036854775807)))⟩,
  ⟨[(.x (.u .not (.o .lt (.n 20) (.u .len (.v 5))))), (.x (.o .lt (.n 0) (.u .len (.v 5))))], (.x (.o .le (.o .mul (.u .len (.v 5)) (.n 8)) (.n 140737488355328)))⟩,
  ⟨[(.x (.u .not (.o .lt (.n 20) (.u .len (.v 5))))), (.x (.o .lt (.n 0) (.u .len (.v 5))))], (.x (.o .le (.u .len (.v 5)) (.n 9223372036854775807)))⟩,
  ⟨[(.x (.u .not (.o .lt (.n 20) (.u .len (.v 5))))), (.x (.o .lt (.n 0) (.u .len (.v 5))))], (.x (.o .le (.o .mul (.u .len (.v 5)) (.n 8)) (.n 140737488355328)))⟩,
  ⟨[(.x (.u .not (.o .lt (.n 20) (.u .len (.v 5))))), (.x (.o .lt (.n 0) (.u .len (.v 5))))], (.x (.o .le (.u .len (.v 5)) (.n 9223372036854775807)))⟩,
  ⟨[(.x (.u .not (.o .lt (.n 20) (.u .len (.v 5))))), (.x (.o .lt (.n 0) (.u .len (.v 5))))], (.x (.o .le (.o .mul (.u .len (.v 5)) (.n 8)) (.n 140737488355328)))⟩,
  ⟨[(.x (.u .not (.o .lt (.n 20) (.u .len (.v 5))))), (.x (.o .lt (.n 0) (.u .len (.v 5))))], (.x (.o .le (.u .len (.v 5)) (.n 9223372036854775807)))⟩]
theorem apart21_run : runOne cAp 100 5 (apartK 2 1) (((apartK 2 1)).outs.headD (.nilp, ((apartK 2 1)).h)) = some apart21_ob := by kernel_rfl
def apart22_ob : List Obl := [⟨[(.x (.u .not (.o .lt (.n 20) (.u .len (.v 7))))), (.x (.u .not (.o .lt (.n 20) (.u .len (.v 5))))), (.x (.o .lt (.n 0) (.u .len (.v 7)))), (.x (.o .lt (.n 0) (.u .len (.v 5))))], (.x (.o .le (.o .mul (.u .len (.v 5)) (.n 8)) (.n 140737488355328)))⟩,
  ⟨[(.x (.u .not (.o .lt (.n 20) (.u .len (.v 7))))), (.x (.u .not (.o .lt (.n 20) (.u .len (.v 5))))), (.x (.o .lt (.n 0) (.u .len (.v 7)))), (.x (.o .lt (.n 0) (.u .len (.v 5))))], (.x (.o .le (.u .len (.v 5)) (.n 9223372036854775807)))⟩,
  ⟨[(.x (.o .le (.u .len (.v 5)) (.v 9))), (.x (.u .not (.o .lt (.n 20) (.u .len (.v 7))))), (.x (.u .not (.o .lt (.n 20) (.u .len (.v 5))))), (.x (.o .lt (.n 0) (.u .len (.v 7)))), (.x (.o .lt (.n 0) (.u .len (.v 5))))], (.x (.o .le (.o .mul (.u .len (.v 7)) (.n 8)) (.n 140737488355328)))⟩,
  ⟨[(.x (.o .le (.u .len (.v 5)) (.v 9))), (.x (.u .not (.o .lt (.n 20) (.u .len (.v 7))))), (.x (.u .not (.o .lt (.n 20) (.u .len (.v 5))))), (.x (.o .lt (.n 0) (.u .len (.v 7)))), (.x (.o .lt (.n 0) (.u .len (.v 5))))], (.x (.o .le (.u .len (.v 7)) (.n 9223372036854775807)))⟩,
  ⟨[(.x (.u .not (.o .lt (.n 20) (.u .len (.v 7))))), (.x (.u .not (.o .lt (.n 20) (.u .len (.v 5))))), (.x (.o .lt (.n 0) (.u .len (.v 7)))), (.x (.o .lt (.n 0) (.u .len (.v 5))))], (.x (.o .le (.o .mul (.u .len (.v 5)) (.n 8)) (.n 140737488355328)))⟩,
  ⟨[(.x (.u .not (.o .lt (.n 20) (.u .len (.v 7))))), (.x (.u .not (.o .lt (.n 20) (.u .len (.v 5))))), (.x (.o .lt (.n 0) (.u .len (.v 7)))), (.x (.o .lt (.n 0) (.u .len (.v 5))))], (.x (.o .le (.u .len (.v 5)) (.n 9223372036854775807)))⟩,
  ⟨[(.x (.o .le (.u .len (.v 5)) (.v 9))), (.x (.u .not (.o .lt (.n 20) (.u .len (.v 7))))), (.x (.u .not (.o .lt (.n 20) (.u .len (.v 5))))), (.x (.o .lt (.n 0) (.u .len (.v 7)))), (.x (.o .lt (.n 0) (.u .len (.v 5))))], (.x (.o .le (.o .mul (.u .len (.v 7)) (.n 8)) (.n 140737488355328)))⟩,
  ⟨[(.x (.o .le (.u .len (.v 5)) (.v 9))), (.x (.u .not (.o .lt (.n 20) (.u .len (.v 7))))), (.x (.u .not (.o .lt (.n 20) (.u .len (.v 5))))), (.x (.o .lt (.n 0) (.u .len (.v 7)))), (.x (.o .lt (.n 0) (.u .len (.v 5))))], (.x (.o .le (.u .len (.v 7)) (.n 9223372036854775807)))⟩,
  ⟨[(.x (.u .not (.o .lt (.n 20) (.u .len (.v 7))))), (.x (.u .not (.o .lt (.n 20) (.u .len (.v 5))))), (.x (.o .lt (.n 0) (.u .len (.v 7)))), (.x (.o .lt (.n 0) (.u .len (.v 5))))], (.x (.o .le (.o .mul (.u .len (.v 5)) (.n 8)) (.n 140737488355328)))⟩,
  ⟨[(.x (.u .not (.o .lt (.n 20) (.u .len (.v 7))))), (.x (.u .not (.o .lt (.n 20) (.u .len (.v 5))))), (.x (.o .lt (.n 0) (.u .len (.v 7)))), (.x (.o .lt (.n 0) (.u .len (.v 5))))], (.x (.o .le (.u .len (.v 5)) (.n 9223372036854775807)))⟩,
  ⟨[(.x (.o .le (.u .len (.v 5)) (.v 9))), (.x (.u .not (.o .lt (.n 20) (.u .len (.v 7))))), (.x (.u .not (.o .lt (.n 20) (.u .len (.v 5))))), (.x (.o .lt (.n 0) (.u .len (.v 7)))), (.x (.o .lt (.n 0) (.u .len (.v 5))))], (.x (.o .le (.o .mul (.u .len (.v 7)) (.n 8)) (.n 140737488355328)))⟩,
  ⟨[(.x (.o .le (.u .len (.v 5)) (.v 9))), (.x (.u .not (.o .lt (.n 20) (.u .len (.v 7))))), (.x (.u .not (.o .lt (.n 20) (.u .len (.v 5))))), (.x (.o .lt (.n 0) (.u .len (.v 7)))), (.x (.o .lt (.n 0) (.u .len (.v 5))))], (.x (.o .le (.u .len (.v 7)) (.n 9223372036854775807)))⟩,
  ⟨[(.x (.u .not (.o .lt (.n 20) (.u .len (.v 7))))), (.x (.u .not (.o .lt (.n 20) (.u .len (.v 5))))), (.x (.o .lt (.n 0) (.u .len (.v 7)))), (.x (.o .lt (.n 0) (.u .len (.v 5))))], (.x (.o .le (.o .mul (.u .len (.v 5)) (.n 8)) (.n 140737488355328)))⟩,
  ⟨[(.x (.u .not (.o .lt (.n 20) (.u .len (.v 7))))), (.x (.u .not (.o .lt (.n 20) (.u .len (.v 5))))), (.x (.o .lt (.n 0) (.u .len (.v 7)))), (.x (.o .lt (.n 0) (.u .len (.v 5))))], (.x (.o .le (.u .len (.v 5)) (.n 9223372036854775807)))⟩,
  ⟨[(.x (.o .le (.u .len (.v 5)) (.v 9))), (.x (.u .not (.o .lt (.n 20) (.u .len (.v 7))))), (.x (.u .not (.o .lt (.n 20) (.u .len (.v 5))))), (.x (.o .lt (.n 0) (.u .len (.v 7)))), (.x (.o .lt (.n 0) (.u .len (.v 5))))], (.x (.o .le (.o .mul (.u .len (.v 7)) (.n 8)) (.n 140737488355328)))⟩,
  ⟨[(.x (.o .le (.u .len (.v 5)) (.v 9))), (.x (.u .not (.o .lt (.n 20) (.u .len (.v 7))))), (.x (.u .not (.o .lt (.n 20) (.u .len (.v 5))))), (.x (.o .lt (.n 0) (.u .len (.v 7)))), (.x (.o .lt (.n 0) (.u .len (.v 5))))], (.x (.o .le (.u .len (.v 7)) (.n 9223372036854775807)))⟩,
  ⟨[(.x (.u .not (.o .lt (.n 20) (.u .len (.v 7))))), (.x (.u .not (.o .lt (.n 20) (.u .len (.v 5))))), (.x (.o .lt (.n 0) (.u .len (.v 7)))), (.x (.o .lt (.n 0) (.u .len (.v 5))))], (.x (.o .le (.o .mul (.u .len (.v 5)) (.n 8)) (.n 140737488355328)))⟩,
  ⟨[(.x (.u .not (.o .lt (.n 20) (.u .len (.v 7))))), (.x (.u .not (.o .lt (.n 20) (.u .len (.v 5))))), (.x (.o .lt (.n 0) (.u .len (.v 7)))), (.x (.o .lt (.n 0) (.u .len (.v 5))))], (.x (.o .le (.u .len (.v 5)) (.n 9223372036854775807)))⟩,
  ⟨[(.x (.o .le (.u .len (.v 5)) (.v 9))), (.x (.u .not (.o .lt (.n 20) (.u .len (.v 7))))), (.x (.u .not (.o .lt (.n 20) (.u .len (.v 5))))), (.x (.o .lt (.n 0) (.u .len (.v 7)))), (.x (.o .lt (.n 0) (.u .len (.v 5))))], (.x (.o .le (.o .mul (.u .len (.v 7)) (.n 8)) (.n 140737488355328)))⟩,
  ⟨[(.x (.o .le (.u .len (.v 5)) (.v 9))), (.x (.u .not (.o .lt (.n 20) (.u .len (.v 7))))), (.x (.u .not (.o .lt (.n 20) (.u .len (.v 5))))), (.x (.o .lt (.n 0) (.u .len (.v 7)))), (.x (.o .lt (.n 0) (.u .len (.v 5))))], (.x (.o .le (.u .len (.v 7)) (.n 9223372036854775807)))⟩,
  ⟨[(.x (.u .not (.o .lt (.n 20) (.u .len (.v 7))))), (.x (.u .not (.o .lt (.n 20) (.u .len (.v 5))))), (.x (.o .lt (.n 0) (.u .len (.v 7)))), (.x (.o .lt (.n 0) (.u .len (.v 5))))], (.x (.o .le (.o .mul (.u .len (.v 5)) (.n 8)) (.n 140737488355328)))⟩,
  ⟨[(.x (.u .not (.o .lt (.n 20) (.u .len (.v 7))))), (.x (.u .not (.o .lt (.n 20) (.u .len (.v 5))))), (.x (.o .lt (.n 0) (.u .len (.v 7)))), (.x (.o .lt (.n 0) (.u .len (.v 5))))], (.x (.o .le (.u .len (.v 5)) (.n 9223372036854775807)))⟩,
  ⟨[(.x (.o .le (.u .len (.v 5)) (.v 9))), (.x (.u .not (.o .lt (.n 20) (.u .len (.v 7))))), (.x (.u .not (.o .lt (.n 20) (.u .len (.v 5))))), (.x (.o .lt (.n 0) (.u .len (.v 7)))), (.x (.o .lt (.n 0) (.u .len (.v 5))))], (.x (.o .le (.o .mul (.u .len (.v 7)) (.n 8)) (.n 140737488355328)))⟩,
  ⟨[(.x (.o .le (.u .len (.v 5)) (.v 9))), (.x (.u .not (.o .lt (.n 20) (.u .len (.v 7))))), (.x (.u .not (.o .lt (.n 20) (.u .len (.v 5))))), (.x (.o .lt (.n 0) (.u .len (.v 7)))), (.x (.o .lt (.n 0) (.u .len (.v 5))))], (.x (.o .le (.u .len (.v 7)) (.n 9223372036854775807)))⟩,
  ⟨[(.x (.u .not (.o .lt (.n 20) (.u .len (.v 7))))), (.x (.u .not (.o .lt (.n 20) (.u .len (.v 5))))), (.x (.o .lt (.n 0) (.u .len (.v 7)))), (.x (.o .lt (.n 0) (.u .len (.v 5))))], (.x (.o .le (.o .mul (.u .len (.v 5)) (.n 8)) (.n 140737488355328)))⟩,
  ⟨[(.x (.u .not (.o .lt (.n 20) (.u .len (.v 7))))), (.x (.u .not (.o .lt (.n 20) (.u .len (.v 5))))), (.x (.o .lt (.n 0) (.u .len (.v 7)))), (.x (.o .lt (.n 0) (.u .len (.v 5))))], (.x (.o .le (.u .len (.v 5)) (.n 9223372036854775807)))⟩,
  ⟨[(.x (.o .le (.u .len (.v 5)) (.v 9))), (.x (.u .not (.o .lt (.n 20) (.u .len (.v 7))))), (.x (.u .not (.o .lt (.n 20) (.u .len (.v 5))))), (.x (.o .lt (.n 0) (.u .len (.v 7)))), (.x (.o .lt (.n 0) (.u .len (.v 5))))], (.x (.o .le (.o .mul (.u .len (.v 7)) (.n 8)) (.n 140737488355328)))⟩,
  ⟨[(.x (.o .le (.u .len (.v 5)) (.v 9))), (.x (.u .not (.o .lt (.n 20) (.u .len (.v 7))))), (.x (.u .not (.o .lt (.n 20) (.u .len (.v 5))))), (.x (.o .lt (.n 0) (.u .len (.v 7)))), (.x (.o .lt (.n 0) (.u .len (.v 5))))], (.x (.o .le (.u .len (.v 7)) (.n 9223372036854775807)))⟩,
  ⟨[(.x (.u .not (.o .lt (.n 20) (.u .len (.v 7))))), (.x (.u .not (.o .lt (.n 20) (.u .len (.v 5))))), (.x (.o .lt (.n 0) (.u .len (.v 7)))), (.x (.o .lt (.n 0) (.u .len (.v 5))))], (.x (.o .le (.o .mul (.u .len (.v 5)) (.n 8)) (.n 140737488355328)))⟩,
  ⟨[(.x (.u .not (.o .lt (.n 20) (.u .len (.v 7))))), (.x (.u .not (.o .lt (.n 20) (.u .len (.v 5))))), (.x (.o .lt (.n 0) (.u .len (.v 7)))), (.x (.o .lt (.n 0) (.u .len (.v 5))))], (.x (.o .le (.u .len (.v 5)) (.n 9223372036854775807)))⟩,
  ⟨[(.x (.o .le (.u .len (.v 5)) (.v 9))), (.x (.u .not (.o .lt (.n 20) (.u .len (.v 7))))), (.x (.u .not (.o .lt (.n 20) (.u .len (.v 5))))), (.x (.o .lt (.n 0) (.u .len (.v 7)))), (.x (.o .lt (.n 0) (.u .len (.v 5))))], (.x (.o .le (.o .mul (.u .len (.v 7)) (.n 8)) (.n 140737488355328)))⟩,
  ⟨[(.x (.o .le (.u .len (.v 5)) (.v 9))), (.x (.u .not (.o .lt (.n 20) (.u .len (.v 7))))), (.x (.u .not (.o .lt (.n 20) (.u .len (.v 5))))), (.x (.o .lt (.n 0) (.u .len (.v 7)))), (.x (.o .lt (.n 0) (.u .len (.v 5))))], (.x (.o .le (.u .len (.v 7)) (.n 9223372036854775807)))⟩,
  ⟨[(.x (.u .not (.o .lt (.n 20) (.u .len (.v 7))))), (.x (.u .not (.o .lt (.n 20) (.u .len (.v 5))))), (.x (.o .lt (.n 0) (.u .len (.v 7)))), (.x (.o .lt (.n 0) (.u .len (.v 5))))], (.x (.o .le (.o .mul (.u .len (.v 5)) (.n 8)) (.n 140737488355328)))⟩,
  ⟨[(.x (.u .not (.o .lt (.n 20) (.u .len (.v 7))))), (.x (.u .not (.o .lt (.n 20) (.u .len (.v 5))))), (.x (.o .lt (.n 0) (.u .len (.v 7)))), (.x (.o .lt (.n 0) (.u .len (.v 5))))], (.x (.o .le (.u .len (.v 5)) (.n 9223372036854775807)))⟩,
  ⟨[(.x (.o .le (.u .len (.v 5)) (.v 9))), (.x (.u .not (.o .lt (.n 20) (.u .len (.v 7))))), (.x (.u .not (.o .lt (.n 20) (.u .len (.v 5))))), (.x (.o .lt (.n 0) (.u .len (.v 7)))), (.x (.o .lt (.n 0) (.u .len (.v 5))))], (.x (.o .le (.o .mul (.u .len (.v 7)) (.n 8)) (.n 140737488355328)))⟩,
  ⟨[(.x (.o .le (.u .len (.v 5)) (.v 9))), (.x (.u .not (.o .lt (.n 20) (.u .len (.v 7))))), (.x (.u .not (.o .lt (.n 20) (.u .len (.v 5))))), (.x (.o .lt (.n 0) (.u .len (.v 7)))), (.x (.o .lt (.n 0) (.u .len (.v 5))))], (.x (.o .le (.u .len (.v 7)) (.n 9223372036854775807)))⟩,
  ⟨[(.x (.u .not (.o .lt (.n 20) (.u .len (.v 7))))), (.x (.u .not (.o .lt (.n 20) (.u .len (.v 5))))), (.x (.o .lt (.n 0) (.u .len (.v 7)))), (.x (.o .lt (.n 0) (.u .len (.v 5))))], (.x (.o .le (.o .mul (.u .len (.v 5)) (.n 8)) (.n 140737488355328)))⟩,
  ⟨[(.x (.u .not (.o .lt (.n 20) (.u .len (.v 7))))), (.x (.u .not (.o .lt (.n 20) (.u .len (.v 5))))), (.x (.o .lt (.n 0) (.u .len (.v 7)))), (.x (.o .lt (.n 0) (.u .len (.v 5))))], (.x (.o .le (.u .len (.v 5)) (.n 9223372036854775807)))⟩,
  ⟨[(.x (.o .le (.u .len (.v 5)) (.v 9))), (.x (.u .not (.o .lt (.n 20) (.u .len (.v 7))))), (.x (.u .not (.o .lt (.n 20) (.u .len (.v 5))))), (.x (.o .lt (.n 0) (.u .len (.v 7)))), (.x (.o .lt (.n 0) (.u .len (.v 5))))], (.x (.o .le (.o .mul (.u .len (.v 7)) (.n 8)) (.n 140737488355328)))⟩,
  ⟨[(.x (.o .le (.u .len (.v 5)) (.v 9))), (.x (.u .not (.o .lt (.n 20) (.u .len (.v 7))))), (.x (.u .not (.o .lt (.n 20) (.u .len (.v 5))))), (.x (.o .lt (.n 0) (.u .len (.v 7)))), (.x (.o .lt (.n 0) (.u .len (.v 5))))], (.x (.o .le (.u .len (.v 7)) (.n 9223372036854775807)))⟩]
theorem apart22_run : runOne cAp 100 5 (apartK 2 2) (((apartK 2 2)).outs.headD (.nilp, ((apartK 2 2)).h)) = some apart22_ob := by kernel_rfl
theorem apart02_all (w : World) : ∀ o ∈ apart02_ob, o.ok ⟨w, IA⟩ := by
  unfold apart02_ob
  simp only [List.forall_mem_cons, List.not_mem_nil, false_implies, implies_true, and_true]
  refine ⟨?_, ?_, ?_, ?_, ?_, ?_, ?_, ?_, ?_, ?_, ?_, ?_, ?_, ?_, ?_, ?_, ?_, ?_, ?_, ?_⟩
  all_goals
    intro ρ _ _ hfs
    simp only [List.forall_mem_cons, List.not_mem_nil, false_implies, implies_true, and_true, Fact.ok, X.den, O2.den, O1.den, den_wrap, asB_b, asI_i, Bool.not_eq_true', ilt_iff, ile_iff, ieq_iff, ilt_f, ile_f, w64_def] at hfs
    simp only [Fact.ok, X.den, O2.den, O1.den, den_wrap, asB_b, asI_i, Bool.not_eq_true', ilt_iff, ile_iff, ieq_iff, ilt_f, ile_f, w64_def]
    omega
theorem apart12_all (w : World) : ∀ o ∈ apart12_ob, o.ok ⟨w, IA⟩ := by
  unfold apart12_ob
  simp only [List.forall_mem_cons, List.not_mem_nil, false_implies, implies_true, and_true]
  refine ⟨?_, ?_, ?_, ?_, ?_, ?_, ?_, ?_, ?_, ?_, ?_, ?_, ?_, ?_, ?_, ?_, ?_, ?_, ?_, ?_⟩
  all_goals
    intro ρ _ _ hfs
    simp only [List.forall_mem_cons, List.not_mem_nil, false_implies, implies_true, and_true, Fact.ok, X.den, O2.den, O1.den, den_wrap, asB_b, asI_i, Bool.not_eq_true', ilt_iff, ile_iff, ieq_iff, ilt_f, ile_f, w64_def] at hfs
    simp only [Fact.ok, X.den, O2.den, O1.den, den_wrap, asB_b, asI_i, Bool.not_eq_true', ilt_iff, ile_iff, ieq_iff, ilt_f, ile_f, w64_def]
    omega
theorem apart20_all (w : World) : ∀ o ∈ apart20_ob, o.ok ⟨w, IA⟩ := by
  unfold apart20_ob
  simp only [List.forall_mem_cons, List.not_mem_nil, false_implies, implies_true, and_true]
  refine ⟨?_, ?_, ?_, ?_, ?_, ?_, ?_, ?_, ?_, ?_, ?_, ?_, ?_, ?_, ?_, ?_, ?_, ?_, ?_, ?_⟩
  all_goals
    intro ρ _ _ hfs
    simp only [List.forall_mem_cons, List.not_mem_nil, false_implies, implies_true, and_true, Fact.ok, X.den, O2.den, O1.den, den_wrap, asB_b, asI_i, Bool.not_eq_true', ilt_iff, ile_iff, ieq_iff, ilt_f, ile_f, w64_def] at hfs
    simp only [Fact.ok, X.den, O2.den, O1.den, den_wrap, asB_b, asI_i, Bool.not_eq_true', ilt_iff, ile_iff, ieq_iff, ilt_f, ile_f, w64_def]
    omega
theorem apart21_all (w : World) : ∀ o ∈ apart21_ob, o.ok ⟨w, IA⟩ := by
  unfold apart21_ob
  simp only [List.forall_mem_cons, List.not_mem_nil, false_implies, implies_true, and_true]
  refine ⟨?_, ?_, ?_, ?_, ?_, ?_, ?_, ?_, ?_, ?_, ?_, ?_, ?_, ?_, ?_, ?_, ?_, ?_, ?_, ?_⟩
  all_goals
    intro ρ _ _ hfs
    simp only [List.forall_mem_cons, List.not_mem_nil, false_implies, implies_true, and_true, Fact.ok, X.den, O2.den, O1.den, den_wrap, asB_b, asI_i, Bool.not_eq_true', ilt_iff, ile_iff, ieq_iff, ilt_f, ile_f, w64_def] at hfs
    simp only [Fact.ok, X.den, O2.den, O1.den, den_wrap, asB_b, asI_i, Bool.not_eq_true', ilt_iff, ile_iff, ieq_iff, ilt_f, ile_f, w64_def]
    omega
theorem apart22_all (w : World) : ∀ o ∈ apart22_ob, o.ok ⟨w, IA⟩ := by
  unfold apart22_ob
  simp only [List.forall_mem_cons, List.not_mem_nil, false_implies, implies_true, and_true]
  refine ⟨?_, ?_, ?_, ?_, ?_, ?_, ?_, ?_, ?_, ?_, ?_, ?_, ?_, ?_, ?_, ?_, ?_, ?_, ?_, ?_, ?_, ?_, ?_, ?_, ?_, ?_, ?_, ?_, ?_, ?_, ?_, ?_, ?_, ?_, ?_, ?_, ?_, ?_, ?_, ?_⟩
  all_goals
    intro ρ _ _ hfs
    simp only [List.forall_mem_cons, List.not_mem_nil, false_implies, implies_true, and_true, Fact.ok, X.den, O2.den, O1.den, den_wrap, asB_b, asI_i, Bool.not_eq_true', ilt_iff, ile_iff, ieq_iff, ilt_f, ile_f, w64_def] at hfs
    simp only [Fact.ok, X.den, O2.den, O1.den, den_wrap, asB_b, asI_i, Bool.not_eq_true', ilt_iff, ile_iff, ieq_iff, ilt_f, ile_f, w64_def]
    omega
theorem apart00_ok : CtrOk Tryd.prog IA 5 (apartK 0 0) := .one (ctx_ok bookAp_ok) (by kernel_rfl) apart00_run List.mem_cons_self (fun _ o ho => by cases ho)
theorem apart01_ok : CtrOk Tryd.prog IA 5 (apartK 0 1) := .one (ctx_ok bookAp_ok) (by kernel_rfl) apart01_run List.mem_cons_self (fun _ o ho => by cases ho)
theorem apart02_ok : CtrOk Tryd.prog IA 5 (apartK 0 2) := .one (ctx_ok bookAp_ok) (by kernel_rfl) apart02_run List.mem_cons_self apart02_all
theorem apart10_ok : CtrOk Tryd.prog IA 5 (apartK 1 0) := .one (ctx_ok bookAp_ok) (by kernel_rfl) apart10_run List.mem_cons_self (fun _ o ho => by cases ho)
theorem apart11_ok : CtrOk Tryd.prog IA 5 (apartK 1 1) := .one (ctx_ok bookAp_ok) (by kernel_rfl) apart11_run List.mem_cons_self (fun _ o ho => by cases ho)
theorem apart12_ok : CtrOk Tryd.prog IA 5 (apartK 1 2) := .one (ctx_ok bookAp_ok) (by kernel_rfl) apart12_run List.mem_cons_self apart12_all
theorem apart20_ok : CtrOk Tryd.prog IA 5 (apartK 2 0) := .one (ctx_ok bookAp_ok) (by kernel_rfl) apart20_run List.mem_cons_self apart20_all
theorem apart21_ok : CtrOk Tryd.prog IA 5 (apartK 2 1) := .one (ctx_ok bookAp_ok) (by kernel_rfl) apart21_run List.mem_cons_self apart21_all
theorem apart22_ok : CtrOk Tryd.prog IA 5 (apartK 2 2) := .one (ctx_ok bookAp_ok) (by kernel_rfl) apart22_run List.mem_cons_self apart22_all
end Go.Proofs.YtkphkjffcpkhjaaDoor
end
