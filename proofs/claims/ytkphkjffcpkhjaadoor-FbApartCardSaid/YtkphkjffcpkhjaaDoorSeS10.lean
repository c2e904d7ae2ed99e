import Derived.Test.YtkphkjffcpkhjaaDoorSeS0
/-! fb.Step of RS: the runs (printed by gen/steps.py). -/
noncomputable section
set_option linter.unusedSimpArgs false
set_option linter.unusedVariables false
namespace Go.Proofs.YtkphkjffcpkhjaaDoor
open Go Go.SE
set_option maxRecDepth 1000000
def rs_ff_ob : List Obl := [⟨[(.x (.u .not (.o .lt (.n 0) (.u .len (.v 0)))))], (.q (.c .mset (.u .asm .nil) (.s [83]) (.u .b2i (.u .not (.o .eq (.o .get (.v 0) (.n 0)) (.n 0))))) (.u .asm .nil))⟩,
  ⟨[(.x (.u .not (.o .lt (.n 1) (.u .len (.v 0)))))], (.q (.c .mset (.c .mset (.u .asm .nil) (.s [82, 49]) (.u .b2i (.u .not (.o .eq (.o .get (.v 0) (.n 1)) (.n 0))))) (.s [83]) (.u .b2i (.u .not (.o .eq (.o .get (.v 0) (.n 0)) (.n 0))))) (.c .mset (.u .asm .nil) (.s [83]) (.u .b2i (.u .not (.o .eq (.o .get (.v 0) (.n 0)) (.n 0))))))⟩,
  ⟨[(.x (.u .not (.o .lt (.n 0) (.u .len (.v 1)))))], (.q (.c .mset (.c .mset (.c .mset (.u .asm .nil) (.s [81, 49]) (.u .b2i (.u .not (.o .eq (.o .get (.v 1) (.n 0)) (.n 0))))) (.s [82, 49]) (.u .b2i (.u .not (.o .eq (.o .get (.v 0) (.n 1)) (.n 0))))) (.s [83]) (.u .b2i (.u .not (.o .eq (.o .get (.v 0) (.n 0)) (.n 0))))) (.c .mset (.c .mset (.u .asm .nil) (.s [82, 49]) (.u .b2i (.u .not (.o .eq (.o .get (.v 0) (.n 1)) (.n 0))))) (.s [83]) (.u .b2i (.u .not (.o .eq (.o .get (.v 0) (.n 0)) (.n 0))))))⟩,
  ⟨[(.x (.o .eq (.o .get (.v 0) (.n 0)) (.n 0))), (.x (.o .eq (.o .get (.v 0) (.n 1)) (.n 0)))], (.q (.u (.fld 0) (.u (.f 10) (.o .cons (.v 0) (.o .cons (.v 1) (.o .cons (.v 3) (.o .cons (.v 4) (.o .cons (.v 5) (.o .cons (.v 7) .nil)))))))) (.u .b2i (.u .not (.o .eq (.u .b2i (.u .not (.o .eq (.o .get (.v 1) (.n 0)) (.n 0)))) (.n 0)))))⟩,
  ⟨[(.x (.o .eq (.o .get (.v 0) (.n 0)) (.n 0))), (.x (.o .eq (.o .get (.v 0) (.n 1)) (.n 0)))], (.q (.u (.fld 1) (.u (.f 10) (.o .cons (.v 0) (.o .cons (.v 1) (.o .cons (.v 3) (.o .cons (.v 4) (.o .cons (.v 5) (.o .cons (.v 7) .nil)))))))) (.u (.wrap .i32) (.v 3)))⟩,
  ⟨[(.x (.o .eq (.o .get (.v 0) (.n 0)) (.n 0))), (.x (.o .eq (.o .get (.v 0) (.n 1)) (.n 0)))], (.q (.u (.fld 2) (.u (.f 10) (.o .cons (.v 0) (.o .cons (.v 1) (.o .cons (.v 3) (.o .cons (.v 4) (.o .cons (.v 5) (.o .cons (.v 7) .nil)))))))) (.u (.wrap .i32) (.v 4)))⟩,
  ⟨[(.x (.o .eq (.o .get (.v 0) (.n 0)) (.n 0))), (.x (.o .eq (.o .get (.v 0) (.n 1)) (.n 0)))], (.q (.u (.fld 3) (.u (.f 10) (.o .cons (.v 0) (.o .cons (.v 1) (.o .cons (.v 3) (.o .cons (.v 4) (.o .cons (.v 5) (.o .cons (.v 7) .nil)))))))) (.u (.wrap .i32) (.v 5)))⟩,
  ⟨[(.x (.u .not (.o .eq (.o .get (.v 0) (.n 0)) (.n 0)))), (.x (.o .eq (.o .get (.v 0) (.n 1)) (.n 0)))], (.q (.u (.fld 0) (.u (.f 10) (.o .cons (.v 0) (.o .cons (.v 1) (.o .cons (.v 3) (.o .cons (.v 4) (.o .cons (.v 5) (.o .cons (.v 7) .nil)))))))) (.n 1))⟩,
  ⟨[(.x (.u .not (.o .eq (.o .get (.v 0) (.n 0)) (.n 0)))), (.x (.o .eq (.o .get (.v 0) (.n 1)) (.n 0)))], (.q (.u (.fld 1) (.u (.f 10) (.o .cons (.v 0) (.o .cons (.v 1) (.o .cons (.v 3) (.o .cons (.v 4) (.o .cons (.v 5) (.o .cons (.v 7) .nil)))))))) (.u (.wrap .i32) (.v 3)))⟩,
  ⟨[(.x (.u .not (.o .eq (.o .get (.v 0) (.n 0)) (.n 0)))), (.x (.o .eq (.o .get (.v 0) (.n 1)) (.n 0)))], (.q (.u (.fld 2) (.u (.f 10) (.o .cons (.v 0) (.o .cons (.v 1) (.o .cons (.v 3) (.o .cons (.v 4) (.o .cons (.v 5) (.o .cons (.v 7) .nil)))))))) (.u (.wrap .i32) (.v 4)))⟩,
  ⟨[(.x (.u .not (.o .eq (.o .get (.v 0) (.n 0)) (.n 0)))), (.x (.o .eq (.o .get (.v 0) (.n 1)) (.n 0)))], (.q (.u (.fld 3) (.u (.f 10) (.o .cons (.v 0) (.o .cons (.v 1) (.o .cons (.v 3) (.o .cons (.v 4) (.o .cons (.v 5) (.o .cons (.v 7) .nil)))))))) (.u (.wrap .i32) (.v 5)))⟩,
  ⟨[(.x (.u .not (.o .eq (.o .get (.v 0) (.n 1)) (.n 0))))], (.q (.u (.fld 0) (.u (.f 10) (.o .cons (.v 0) (.o .cons (.v 1) (.o .cons (.v 3) (.o .cons (.v 4) (.o .cons (.v 5) (.o .cons (.v 7) .nil)))))))) (.n 0))⟩,
  ⟨[(.x (.u .not (.o .eq (.o .get (.v 0) (.n 1)) (.n 0))))], (.q (.u (.fld 1) (.u (.f 10) (.o .cons (.v 0) (.o .cons (.v 1) (.o .cons (.v 3) (.o .cons (.v 4) (.o .cons (.v 5) (.o .cons (.v 7) .nil)))))))) (.u (.wrap .i32) (.v 3)))⟩,
  ⟨[(.x (.u .not (.o .eq (.o .get (.v 0) (.n 1)) (.n 0))))], (.q (.u (.fld 2) (.u (.f 10) (.o .cons (.v 0) (.o .cons (.v 1) (.o .cons (.v 3) (.o .cons (.v 4) (.o .cons (.v 5) (.o .cons (.v 7) .nil)))))))) (.u (.wrap .i32) (.v 4)))⟩,
  ⟨[(.x (.u .not (.o .eq (.o .get (.v 0) (.n 1)) (.n 0))))], (.q (.u (.fld 3) (.u (.f 10) (.o .cons (.v 0) (.o .cons (.v 1) (.o .cons (.v 3) (.o .cons (.v 4) (.o .cons (.v 5) (.o .cons (.v 7) .nil)))))))) (.u (.wrap .i32) (.v 5)))⟩]
theorem rs_ff_run : runOne cS 100 16 (stepK sRS 10 1 false false) (((stepK sRS 10 1 false false)).outs.headD (.nilp, ((stepK sRS 10 1 false false)).h)) = some rs_ff_ob := by kernel_rfl
theorem rs_ff_all {I : Interp} (hI : ∀ u, I.f 10 u = fbF 10 u) (w : World) : ∀ o ∈ rs_ff_ob, o.ok ⟨w, I⟩ := by
  unfold rs_ff_ob
  simp only [List.forall_mem_cons, List.not_mem_nil, false_implies, implies_true, and_true]
  refine ⟨?_, ?_, ?_, ?_, ?_, ?_, ?_, ?_, ?_, ?_, ?_, ?_, ?_, ?_, ?_⟩
  · intro ρ hf _ hfs
    have hF : ∀ u, ρ.f 10 u = fbF 10 u := fun u => by rw [hf]; exact hI u
    simp only [List.forall_mem_cons, List.not_mem_nil, false_implies, implies_true, and_true, Fact.ok, X.den, den_not, den_b2i, den_wrap, den_get, den_lt, den_le, den_eq, den_min, den_max, den_add, den_sub, den_len, den_cons, den_mset, asB_b, asI_i, asL_l, asS_s, Bool.not_eq_true', ilt_iff, ile_iff, ieq_iff, ilt_f, ile_f, ieq_f, w32_def, w16_def, w64_def] at hfs
    simp only [Fact.ok, X.den, den_not, den_b2i, den_wrap, den_get, den_lt, den_le, den_eq, den_min, den_max, den_add, den_sub, den_len, den_cons, den_mset, den_asm, den_f1, hF, asB_b, asI_i, asL_l, asS_s, asM_m, fbF, arg1, fld_step, List.getD_cons_zero, List.getD_cons_succ, getD_asI, Bool.not_eq_true', ilt_iff, ile_iff, ieq_iff, ilt_f, ile_f, ieq_f, w32_def, w16_def, w64_def, w32_w64]
    clear hF hf
    refine congrArg U.m (funext fun q => ?_)
    simp only [getD_pastI hfs, asI_default, w32_zero, w16_zero, not_true, if_false, k_S, k_R1, k_Q1]
    by_cases hq : q = [83]
    · subst hq; rfl
    · simp only [hq, if_false]
  · intro ρ hf _ hfs
    have hF : ∀ u, ρ.f 10 u = fbF 10 u := fun u => by rw [hf]; exact hI u
    simp only [List.forall_mem_cons, List.not_mem_nil, false_implies, implies_true, and_true, Fact.ok, X.den, den_not, den_b2i, den_wrap, den_get, den_lt, den_le, den_eq, den_min, den_max, den_add, den_sub, den_len, den_cons, den_mset, asB_b, asI_i, asL_l, asS_s, Bool.not_eq_true', ilt_iff, ile_iff, ieq_iff, ilt_f, ile_f, ieq_f, w32_def, w16_def, w64_def] at hfs
    simp only [Fact.ok, X.den, den_not, den_b2i, den_wrap, den_get, den_lt, den_le, den_eq, den_min, den_max, den_add, den_sub, den_len, den_cons, den_mset, den_asm, den_f1, hF, asB_b, asI_i, asL_l, asS_s, asM_m, fbF, arg1, fld_step, List.getD_cons_zero, List.getD_cons_succ, getD_asI, Bool.not_eq_true', ilt_iff, ile_iff, ieq_iff, ilt_f, ile_f, ieq_f, w32_def, w16_def, w64_def, w32_w64]
    clear hF hf
    refine congrArg U.m (funext fun q => ?_)
    simp only [getD_pastI hfs, asI_default, w32_zero, w16_zero, not_true, if_false, k_S, k_R1, k_Q1]
    by_cases hq : q = [82, 49]
    · subst hq; rfl
    · simp only [hq, if_false]
  · intro ρ hf _ hfs
    have hF : ∀ u, ρ.f 10 u = fbF 10 u := fun u => by rw [hf]; exact hI u
    simp only [List.forall_mem_cons, List.not_mem_nil, false_implies, implies_true, and_true, Fact.ok, X.den, den_not, den_b2i, den_wrap, den_get, den_lt, den_le, den_eq, den_min, den_max, den_add, den_sub, den_len, den_cons, den_mset, asB_b, asI_i, asL_l, asS_s, Bool.not_eq_true', ilt_iff, ile_iff, ieq_iff, ilt_f, ile_f, ieq_f, w32_def, w16_def, w64_def] at hfs
    simp only [Fact.ok, X.den, den_not, den_b2i, den_wrap, den_get, den_lt, den_le, den_eq, den_min, den_max, den_add, den_sub, den_len, den_cons, den_mset, den_asm, den_f1, hF, asB_b, asI_i, asL_l, asS_s, asM_m, fbF, arg1, fld_step, List.getD_cons_zero, List.getD_cons_succ, getD_asI, Bool.not_eq_true', ilt_iff, ile_iff, ieq_iff, ilt_f, ile_f, ieq_f, w32_def, w16_def, w64_def, w32_w64]
    clear hF hf
    refine congrArg U.m (funext fun q => ?_)
    simp only [getD_pastI hfs, asI_default, w32_zero, w16_zero, not_true, if_false, k_S, k_R1, k_Q1]
    by_cases hq : q = [81, 49]
    · subst hq; rfl
    · simp only [hq, if_false]
  all_goals
    intro ρ hf _ hfs
    have hF : ∀ u, ρ.f 10 u = fbF 10 u := fun u => by rw [hf]; exact hI u
    simp only [List.forall_mem_cons, List.not_mem_nil, false_implies, implies_true, and_true, Fact.ok, X.den, den_not, den_b2i, den_wrap, den_get, den_lt, den_le, den_eq, den_min, den_max, den_add, den_sub, den_len, den_cons, den_mset, asB_b, asI_i, asL_l, asS_s, Bool.not_eq_true', ilt_iff, ile_iff, ieq_iff, ilt_f, ile_f, ieq_f, w32_def, w16_def, w64_def] at hfs
    simp only [Fact.ok, X.den, den_not, den_b2i, den_wrap, den_get, den_lt, den_le, den_eq, den_min, den_max, den_add, den_sub, den_len, den_cons, den_mset, den_asm, den_f1, hF, asB_b, asI_i, asL_l, asS_s, asM_m, fbF, arg1, fld_step, List.getD_cons_zero, List.getD_cons_succ, getD_asI, Bool.not_eq_true', ilt_iff, ile_iff, ieq_iff, ilt_f, ile_f, ieq_f, w32_def, w16_def, w64_def, w32_w64]
    clear hF hf
    refine congrArg U.i ?_
    try simp only [tn0, tn1, tn2, tn3, tn4, w32_w64, Int.sub_self, w32_zero, max00, min0m] at hfs
    simp only [rsZ, nz, ne_eq, getD_asI, tn0, tn1, tn2, tn3, tn4, w64_up, w64_dn, w32_max0, w32_et, w16_inc, w16_dec, w16_w16, w32_w32, Int.sub_self, w32_zero, max00, min0m, w32_et0, shown]
    simp [-List.getD_eq_getElem?_getD, List.getD_cons_zero, List.getD_cons_succ, hfs, tr, shown, asI_default, w16_zero, w32_zero, min0m, max00, w32_et, w32_max0, w32_et0]
    try omega
theorem rs_ff_ok {I : Interp} (hI : ∀ u, I.f 10 u = fbF 10 u) : CtrOk Tryd.prog I 16 (stepK sRS 10 1 false false) := .one (cS_ok I) (by kernel_rfl) rs_ff_run List.mem_cons_self (rs_ff_all hI)
def rs_ft_ob : List Obl := [⟨[(.x (.u .not (.o .lt (.n 0) (.u .len (.v 0)))))], (.q (.c .mset (.u .asm .nil) (.s [83]) (.u .b2i (.u .not (.o .eq (.o .get (.v 0) (.n 0)) (.n 0))))) (.u .asm .nil))⟩,
  ⟨[(.x (.u .not (.o .lt (.n 1) (.u .len (.v 0)))))], (.q (.c .mset (.c .mset (.u .asm .nil) (.s [82, 49]) (.u .b2i (.u .not (.o .eq (.o .get (.v 0) (.n 1)) (.n 0))))) (.s [83]) (.u .b2i (.u .not (.o .eq (.o .get (.v 0) (.n 0)) (.n 0))))) (.c .mset (.u .asm .nil) (.s [83]) (.u .b2i (.u .not (.o .eq (.o .get (.v 0) (.n 0)) (.n 0))))))⟩,
  ⟨[(.x (.o .eq (.o .get (.v 0) (.n 0)) (.n 0))), (.x (.o .eq (.o .get (.v 0) (.n 1)) (.n 0)))], (.q (.u (.fld 0) (.u (.f 10) (.o .cons (.v 0) (.o .cons .nil (.o .cons (.v 3) (.o .cons (.v 4) (.o .cons (.v 5) (.o .cons (.v 7) .nil)))))))) (.n 0))⟩,
  ⟨[(.x (.o .eq (.o .get (.v 0) (.n 0)) (.n 0))), (.x (.o .eq (.o .get (.v 0) (.n 1)) (.n 0)))], (.q (.u (.fld 1) (.u (.f 10) (.o .cons (.v 0) (.o .cons .nil (.o .cons (.v 3) (.o .cons (.v 4) (.o .cons (.v 5) (.o .cons (.v 7) .nil)))))))) (.u (.wrap .i32) (.v 3)))⟩,
  ⟨[(.x (.o .eq (.o .get (.v 0) (.n 0)) (.n 0))), (.x (.o .eq (.o .get (.v 0) (.n 1)) (.n 0)))], (.q (.u (.fld 2) (.u (.f 10) (.o .cons (.v 0) (.o .cons .nil (.o .cons (.v 3) (.o .cons (.v 4) (.o .cons (.v 5) (.o .cons (.v 7) .nil)))))))) (.u (.wrap .i32) (.v 4)))⟩,
  ⟨[(.x (.o .eq (.o .get (.v 0) (.n 0)) (.n 0))), (.x (.o .eq (.o .get (.v 0) (.n 1)) (.n 0)))], (.q (.u (.fld 3) (.u (.f 10) (.o .cons (.v 0) (.o .cons .nil (.o .cons (.v 3) (.o .cons (.v 4) (.o .cons (.v 5) (.o .cons (.v 7) .nil)))))))) (.u (.wrap .i32) (.v 5)))⟩,
  ⟨[(.x (.u .not (.o .eq (.o .get (.v 0) (.n 0)) (.n 0)))), (.x (.o .eq (.o .get (.v 0) (.n 1)) (.n 0)))], (.q (.u (.fld 0) (.u (.f 10) (.o .cons (.v 0) (.o .cons .nil (.o .cons (.v 3) (.o .cons (.v 4) (.o .cons (.v 5) (.o .cons (.v 7) .nil)))))))) (.n 1))⟩,
  ⟨[(.x (.u .not (.o .eq (.o .get (.v 0) (.n 0)) (.n 0)))), (.x (.o .eq (.o .get (.v 0) (.n 1)) (.n 0)))], (.q (.u (.fld 1) (.u (.f 10) (.o .cons (.v 0) (.o .cons .nil (.o .cons (.v 3) (.o .cons (.v 4) (.o .cons (.v 5) (.o .cons (.v 7) .nil)))))))) (.u (.wrap .i32) (.v 3)))⟩,
  ⟨[(.x (.u .not (.o .eq (.o .get (.v 0) (.n 0)) (.n 0)))), (.x (.o .eq (.o .get (.v 0) (.n 1)) (.n 0)))], (.q (.u (.fld 2) (.u (.f 10) (.o .cons (.v 0) (.o .cons .nil (.o .cons (.v 3) (.o .cons (.v 4) (.o .cons (.v 5) (.o .cons (.v 7) .nil)))))))) (.u (.wrap .i32) (.v 4)))⟩,
  ⟨[(.x (.u .not (.o .eq (.o .get (.v 0) (.n 0)) (.n 0)))), (.x (.o .eq (.o .get (.v 0) (.n 1)) (.n 0)))], (.q (.u (.fld 3) (.u (.f 10) (.o .cons (.v 0) (.o .cons .nil (.o .cons (.v 3) (.o .cons (.v 4) (.o .cons (.v 5) (.o .cons (.v 7) .nil)))))))) (.u (.wrap .i32) (.v 5)))⟩,
  ⟨[(.x (.u .not (.o .eq (.o .get (.v 0) (.n 1)) (.n 0))))], (.q (.u (.fld 0) (.u (.f 10) (.o .cons (.v 0) (.o .cons .nil (.o .cons (.v 3) (.o .cons (.v 4) (.o .cons (.v 5) (.o .cons (.v 7) .nil)))))))) (.n 0))⟩,
  ⟨[(.x (.u .not (.o .eq (.o .get (.v 0) (.n 1)) (.n 0))))], (.q (.u (.fld 1) (.u (.f 10) (.o .cons (.v 0) (.o .cons .nil (.o .cons (.v 3) (.o .cons (.v 4) (.o .cons (.v 5) (.o .cons (.v 7) .nil)))))))) (.u (.wrap .i32) (.v 3)))⟩,
  ⟨[(.x (.u .not (.o .eq (.o .get (.v 0) (.n 1)) (.n 0))))], (.q (.u (.fld 2) (.u (.f 10) (.o .cons (.v 0) (.o .cons .nil (.o .cons (.v 3) (.o .cons (.v 4) (.o .cons (.v 5) (.o .cons (.v 7) .nil)))))))) (.u (.wrap .i32) (.v 4)))⟩,
  ⟨[(.x (.u .not (.o .eq (.o .get (.v 0) (.n 1)) (.n 0))))], (.q (.u (.fld 3) (.u (.f 10) (.o .cons (.v 0) (.o .cons .nil (.o .cons (.v 3) (.o .cons (.v 4) (.o .cons (.v 5) (.o .cons (.v 7) .nil)))))))) (.u (.wrap .i32) (.v 5)))⟩]
theorem rs_ft_run : runOne cS 100 16 (stepK sRS 10 1 false true) (((stepK sRS 10 1 false true)).outs.headD (.nilp, ((stepK sRS 10 1 false true)).h)) = some rs_ft_ob := by kernel_rfl
theorem rs_ft_all {I : Interp} (hI : ∀ u, I.f 10 u = fbF 10 u) (w : World) : ∀ o ∈ rs_ft_ob, o.ok ⟨w, I⟩ := by
  unfold rs_ft_ob
  simp only [List.forall_mem_cons, List.not_mem_nil, false_implies, implies_true, and_true]
  refine ⟨?_, ?_, ?_, ?_, ?_, ?_, ?_, ?_, ?_, ?_, ?_, ?_, ?_, ?_⟩
  · intro ρ hf _ hfs
    have hF : ∀ u, ρ.f 10 u = fbF 10 u := fun u => by rw [hf]; exact hI u
    simp only [List.forall_mem_cons, List.not_mem_nil, false_implies, implies_true, and_true, Fact.ok, X.den, den_not, den_b2i, den_wrap, den_get, den_lt, den_le, den_eq, den_min, den_max, den_add, den_sub, den_len, den_cons, den_mset, asB_b, asI_i, asL_l, asS_s, Bool.not_eq_true', ilt_iff, ile_iff, ieq_iff, ilt_f, ile_f, ieq_f, w32_def, w16_def, w64_def] at hfs
    simp only [Fact.ok, X.den, den_not, den_b2i, den_wrap, den_get, den_lt, den_le, den_eq, den_min, den_max, den_add, den_sub, den_len, den_cons, den_mset, den_asm, den_f1, hF, asB_b, asI_i, asL_l, asS_s, asM_m, fbF, arg1, fld_step, List.getD_cons_zero, List.getD_cons_succ, getD_asI, Bool.not_eq_true', ilt_iff, ile_iff, ieq_iff, ilt_f, ile_f, ieq_f, w32_def, w16_def, w64_def, w32_w64]
    clear hF hf
    refine congrArg U.m (funext fun q => ?_)
    simp only [getD_pastI hfs, asI_default, w32_zero, w16_zero, not_true, if_false, k_S, k_R1, k_Q1]
    by_cases hq : q = [83]
    · subst hq; rfl
    · simp only [hq, if_false]
  · intro ρ hf _ hfs
    have hF : ∀ u, ρ.f 10 u = fbF 10 u := fun u => by rw [hf]; exact hI u
    simp only [List.forall_mem_cons, List.not_mem_nil, false_implies, implies_true, and_true, Fact.ok, X.den, den_not, den_b2i, den_wrap, den_get, den_lt, den_le, den_eq, den_min, den_max, den_add, den_sub, den_len, den_cons, den_mset, asB_b, asI_i, asL_l, asS_s, Bool.not_eq_true', ilt_iff, ile_iff, ieq_iff, ilt_f, ile_f, ieq_f, w32_def, w16_def, w64_def] at hfs
    simp only [Fact.ok, X.den, den_not, den_b2i, den_wrap, den_get, den_lt, den_le, den_eq, den_min, den_max, den_add, den_sub, den_len, den_cons, den_mset, den_asm, den_f1, hF, asB_b, asI_i, asL_l, asS_s, asM_m, fbF, arg1, fld_step, List.getD_cons_zero, List.getD_cons_succ, getD_asI, Bool.not_eq_true', ilt_iff, ile_iff, ieq_iff, ilt_f, ile_f, ieq_f, w32_def, w16_def, w64_def, w32_w64]
    clear hF hf
    refine congrArg U.m (funext fun q => ?_)
    simp only [getD_pastI hfs, asI_default, w32_zero, w16_zero, not_true, if_false, k_S, k_R1, k_Q1]
    by_cases hq : q = [82, 49]
    · subst hq; rfl
    · simp only [hq, if_false]
  all_goals
    intro ρ hf _ hfs
    have hF : ∀ u, ρ.f 10 u = fbF 10 u := fun u => by rw [hf]; exact hI u
    simp only [List.forall_mem_cons, List.not_mem_nil, false_implies, implies_true, and_true, Fact.ok, X.den, den_not, den_b2i, den_wrap, den_get, den_lt, den_le, den_eq, den_min, den_max, den_add, den_sub, den_len, den_cons, den_mset, asB_b, asI_i, asL_l, asS_s, Bool.not_eq_true', ilt_iff, ile_iff, ieq_iff, ilt_f, ile_f, ieq_f, w32_def, w16_def, w64_def] at hfs
    simp only [Fact.ok, X.den, den_not, den_b2i, den_wrap, den_get, den_lt, den_le, den_eq, den_min, den_max, den_add, den_sub, den_len, den_cons, den_mset, den_asm, den_f1, hF, asB_b, asI_i, asL_l, asS_s, asM_m, fbF, arg1, fld_step, List.getD_cons_zero, List.getD_cons_succ, getD_asI, Bool.not_eq_true', ilt_iff, ile_iff, ieq_iff, ilt_f, ile_f, ieq_f, w32_def, w16_def, w64_def, w32_w64]
    clear hF hf
    refine congrArg U.i ?_
    try simp only [tn0, tn1, tn2, tn3, tn4, w32_w64, Int.sub_self, w32_zero, max00, min0m] at hfs
    simp only [rsZ, nz, ne_eq, getD_asI, tn0, tn1, tn2, tn3, tn4, w64_up, w64_dn, w32_max0, w32_et, w16_inc, w16_dec, w16_w16, w32_w32, Int.sub_self, w32_zero, max00, min0m, w32_et0, shown]
    simp [-List.getD_eq_getElem?_getD, List.getD_cons_zero, List.getD_cons_succ, hfs, tr, shown, asI_default, w16_zero, w32_zero, min0m, max00, w32_et, w32_max0, w32_et0]
    try omega
theorem rs_ft_ok {I : Interp} (hI : ∀ u, I.f 10 u = fbF 10 u) : CtrOk Tryd.prog I 16 (stepK sRS 10 1 false true) := .one (cS_ok I) (by kernel_rfl) rs_ft_run List.mem_cons_self (rs_ft_all hI)
def rs_tf_ob : List Obl := [⟨[(.x (.u .not (.o .lt (.n 0) (.u .len (.v 1)))))], (.q (.c .mset (.u .asm .nil) (.s [81, 49]) (.u .b2i (.u .not (.o .eq (.o .get (.v 1) (.n 0)) (.n 0))))) (.u .asm .nil))⟩,
  ⟨[], (.q (.u (.fld 0) (.u (.f 10) (.o .cons .nil (.o .cons (.v 1) (.o .cons (.v 3) (.o .cons (.v 4) (.o .cons (.v 5) (.o .cons (.v 7) .nil)))))))) (.u .b2i (.u .not (.o .eq (.u .b2i (.u .not (.o .eq (.o .get (.v 1) (.n 0)) (.n 0)))) (.n 0)))))⟩,
  ⟨[], (.q (.u (.fld 1) (.u (.f 10) (.o .cons .nil (.o .cons (.v 1) (.o .cons (.v 3) (.o .cons (.v 4) (.o .cons (.v 5) (.o .cons (.v 7) .nil)))))))) (.u (.wrap .i32) (.v 3)))⟩,
  ⟨[], (.q (.u (.fld 2) (.u (.f 10) (.o .cons .nil (.o .cons (.v 1) (.o .cons (.v 3) (.o .cons (.v 4) (.o .cons (.v 5) (.o .cons (.v 7) .nil)))))))) (.u (.wrap .i32) (.v 4)))⟩,
  ⟨[], (.q (.u (.fld 3) (.u (.f 10) (.o .cons .nil (.o .cons (.v 1) (.o .cons (.v 3) (.o .cons (.v 4) (.o .cons (.v 5) (.o .cons (.v 7) .nil)))))))) (.u (.wrap .i32) (.v 5)))⟩]
theorem rs_tf_run : runOne cS 100 16 (stepK sRS 10 1 true false) (((stepK sRS 10 1 true false)).outs.headD (.nilp, ((stepK sRS 10 1 true false)).h)) = some rs_tf_ob := by kernel_rfl
theorem rs_tf_all {I : Interp} (hI : ∀ u, I.f 10 u = fbF 10 u) (w : World) : ∀ o ∈ rs_tf_ob, o.ok ⟨w, I⟩ := by
  unfold rs_tf_ob
  simp only [List.forall_mem_cons, List.not_mem_nil, false_implies, implies_true, and_true]
  refine ⟨?_, ?_, ?_, ?_, ?_⟩
  · intro ρ hf _ hfs
    have hF : ∀ u, ρ.f 10 u = fbF 10 u := fun u => by rw [hf]; exact hI u
    simp only [List.forall_mem_cons, List.not_mem_nil, false_implies, implies_true, and_true, Fact.ok, X.den, den_not, den_b2i, den_wrap, den_get, den_lt, den_le, den_eq, den_min, den_max, den_add, den_sub, den_len, den_cons, den_mset, asB_b, asI_i, asL_l, asS_s, Bool.not_eq_true', ilt_iff, ile_iff, ieq_iff, ilt_f, ile_f, ieq_f, w32_def, w16_def, w64_def] at hfs
    simp only [Fact.ok, X.den, den_not, den_b2i, den_wrap, den_get, den_lt, den_le, den_eq, den_min, den_max, den_add, den_sub, den_len, den_cons, den_mset, den_asm, den_f1, hF, asB_b, asI_i, asL_l, asS_s, asM_m, fbF, arg1, fld_step, List.getD_cons_zero, List.getD_cons_succ, getD_asI, Bool.not_eq_true', ilt_iff, ile_iff, ieq_iff, ilt_f, ile_f, ieq_f, w32_def, w16_def, w64_def, w32_w64]
    clear hF hf
    refine congrArg U.m (funext fun q => ?_)
    simp only [getD_pastI hfs, asI_default, w32_zero, w16_zero, not_true, if_false, k_S, k_R1, k_Q1]
    by_cases hq : q = [81, 49]
    · subst hq; rfl
    · simp only [hq, if_false]
  all_goals
    intro ρ hf _ hfs
    have hF : ∀ u, ρ.f 10 u = fbF 10 u := fun u => by rw [hf]; exact hI u
    simp only [List.forall_mem_cons, List.not_mem_nil, false_implies, implies_true, and_true, Fact.ok, X.den, den_not, den_b2i, den_wrap, den_get, den_lt, den_le, den_eq, den_min, den_max, den_add, den_sub, den_len, den_cons, den_mset, asB_b, asI_i, asL_l, asS_s, Bool.not_eq_true', ilt_iff, ile_iff, ieq_iff, ilt_f, ile_f, ieq_f, w32_def, w16_def, w64_def] at hfs
    simp only [Fact.ok, X.den, den_not, den_b2i, den_wrap, den_get, den_lt, den_le, den_eq, den_min, den_max, den_add, den_sub, den_len, den_cons, den_mset, den_asm, den_f1, hF, asB_b, asI_i, asL_l, asS_s, asM_m, fbF, arg1, fld_step, List.getD_cons_zero, List.getD_cons_succ, getD_asI, Bool.not_eq_true', ilt_iff, ile_iff, ieq_iff, ilt_f, ile_f, ieq_f, w32_def, w16_def, w64_def, w32_w64]
    clear hF hf
    refine congrArg U.i ?_
    try simp only [tn0, tn1, tn2, tn3, tn4, w32_w64, Int.sub_self, w32_zero, max00, min0m] at hfs
    simp only [rsZ, nz, ne_eq, getD_asI, tn0, tn1, tn2, tn3, tn4, w64_up, w64_dn, w32_max0, w32_et, w16_inc, w16_dec, w16_w16, w32_w32, Int.sub_self, w32_zero, max00, min0m, w32_et0, shown]
    simp [-List.getD_eq_getElem?_getD, List.getD_cons_zero, List.getD_cons_succ, hfs, tr, shown, asI_default, w16_zero, w32_zero, min0m, max00, w32_et, w32_max0, w32_et0]
    try omega
theorem rs_tf_ok {I : Interp} (hI : ∀ u, I.f 10 u = fbF 10 u) : CtrOk Tryd.prog I 16 (stepK sRS 10 1 true false) := .one (cS_ok I) (by kernel_rfl) rs_tf_run List.mem_cons_self (rs_tf_all hI)
def rs_tt_ob : List Obl := [⟨[], (.q (.u (.fld 0) (.u (.f 10) (.o .cons .nil (.o .cons .nil (.o .cons (.v 3) (.o .cons (.v 4) (.o .cons (.v 5) (.o .cons (.v 7) .nil)))))))) (.n 0))⟩,
  ⟨[], (.q (.u (.fld 1) (.u (.f 10) (.o .cons .nil (.o .cons .nil (.o .cons (.v 3) (.o .cons (.v 4) (.o .cons (.v 5) (.o .cons (.v 7) .nil)))))))) (.u (.wrap .i32) (.v 3)))⟩,
  ⟨[], (.q (.u (.fld 2) (.u (.f 10) (.o .cons .nil (.o .cons .nil (.o .cons (.v 3) (.o .cons (.v 4) (.o .cons (.v 5) (.o .cons (.v 7) .nil)))))))) (.u (.wrap .i32) (.v 4)))⟩,
  ⟨[], (.q (.u (.fld 3) (.u (.f 10) (.o .cons .nil (.o .cons .nil (.o .cons (.v 3) (.o .cons (.v 4) (.o .cons (.v 5) (.o .cons (.v 7) .nil)))))))) (.u (.wrap .i32) (.v 5)))⟩]
theorem rs_tt_run : runOne cS 100 16 (stepK sRS 10 1 true true) (((stepK sRS 10 1 true true)).outs.headD (.nilp, ((stepK sRS 10 1 true true)).h)) = some rs_tt_ob := by kernel_rfl
theorem rs_tt_all {I : Interp} (hI : ∀ u, I.f 10 u = fbF 10 u) (w : World) : ∀ o ∈ rs_tt_ob, o.ok ⟨w, I⟩ := by
  unfold rs_tt_ob
  simp only [List.forall_mem_cons, List.not_mem_nil, false_implies, implies_true, and_true]
  refine ⟨?_, ?_, ?_, ?_⟩
  all_goals
    intro ρ hf _ hfs
    have hF : ∀ u, ρ.f 10 u = fbF 10 u := fun u => by rw [hf]; exact hI u
    simp only [List.forall_mem_cons, List.not_mem_nil, false_implies, implies_true, and_true, Fact.ok, X.den, den_not, den_b2i, den_wrap, den_get, den_lt, den_le, den_eq, den_min, den_max, den_add, den_sub, den_len, den_cons, den_mset, asB_b, asI_i, asL_l, asS_s, Bool.not_eq_true', ilt_iff, ile_iff, ieq_iff, ilt_f, ile_f, ieq_f, w32_def, w16_def, w64_def] at hfs
    simp only [Fact.ok, X.den, den_not, den_b2i, den_wrap, den_get, den_lt, den_le, den_eq, den_min, den_max, den_add, den_sub, den_len, den_cons, den_mset, den_asm, den_f1, hF, asB_b, asI_i, asL_l, asS_s, asM_m, fbF, arg1, fld_step, List.getD_cons_zero, List.getD_cons_succ, getD_asI, Bool.not_eq_true', ilt_iff, ile_iff, ieq_iff, ilt_f, ile_f, ieq_f, w32_def, w16_def, w64_def, w32_w64]
    clear hF hf
    refine congrArg U.i ?_
    try simp only [tn0, tn1, tn2, tn3, tn4, w32_w64, Int.sub_self, w32_zero, max00, min0m] at hfs
    simp only [rsZ, nz, ne_eq, getD_asI, tn0, tn1, tn2, tn3, tn4, w64_up, w64_dn, w32_max0, w32_et, w16_inc, w16_dec, w16_w16, w32_w32, Int.sub_self, w32_zero, max00, min0m, w32_et0, shown]
    simp [-List.getD_eq_getElem?_getD, List.getD_cons_zero, List.getD_cons_succ, hfs, tr, shown, asI_default, w16_zero, w32_zero, min0m, max00, w32_et, w32_max0, w32_et0]
    try omega
theorem rs_tt_ok {I : Interp} (hI : ∀ u, I.f 10 u = fbF 10 u) : CtrOk Tryd.prog I 16 (stepK sRS 10 1 true true) := .one (cS_ok I) (by kernel_rfl) rs_tt_run List.mem_cons_self (rs_tt_all hI)
end Go.Proofs.YtkphkjffcpkhjaaDoor
end
