import Derived.Test.YtkphkjffcpkhjaaDoorSeS0
/-! fb.Step of F_TRIG: the runs (printed by gen/steps.py). -/
noncomputable section
set_option linter.unusedSimpArgs false
set_option linter.unusedVariables false
namespace Go.Proofs.YtkphkjffcpkhjaaDoor
open Go Go.SE
set_option maxRecDepth 1000000
def ftrig_ff_ob : List Obl := [⟨[(.x (.u .not (.o .lt (.n 0) (.u .len (.v 0)))))], (.q (.c .mset (.u .asm .nil) (.s [67, 76, 75]) (.u .b2i (.u .not (.o .eq (.o .get (.v 0) (.n 0)) (.n 0))))) (.u .asm .nil))⟩,
  ⟨[(.x (.u .not (.o .lt (.n 0) (.u .len (.v 1)))))], (.q (.c .mset (.c .mset (.u .asm .nil) (.s [67, 76, 75]) (.u .b2i (.u .not (.o .eq (.o .get (.v 0) (.n 0)) (.n 0))))) (.s [81]) (.u .b2i (.u .not (.o .eq (.o .get (.v 1) (.n 0)) (.n 0))))) (.c .mset (.u .asm .nil) (.s [67, 76, 75]) (.u .b2i (.u .not (.o .eq (.o .get (.v 0) (.n 0)) (.n 0))))))⟩,
  ⟨[(.x (.u .not (.o .eqb (.u .not (.o .eq (.o .get (.v 0) (.n 0)) (.n 0))) (.u .not (.o .eq (.u (.wrap .i32) (.v 3)) (.n 0))))))], (.q (.u (.fld 0) (.u (.f 8) (.o .cons (.v 0) (.o .cons (.v 1) (.o .cons (.v 3) (.o .cons (.v 4) (.o .cons (.v 5) (.o .cons (.v 7) .nil)))))))) (.u .b2i (.u .not (.o .eq (.u .b2i (.o .eq (.o .get (.v 0) (.n 0)) (.n 0))) (.n 0)))))⟩,
  ⟨[(.x (.u .not (.o .eqb (.u .not (.o .eq (.o .get (.v 0) (.n 0)) (.n 0))) (.u .not (.o .eq (.u (.wrap .i32) (.v 3)) (.n 0))))))], (.q (.u (.fld 1) (.u (.f 8) (.o .cons (.v 0) (.o .cons (.v 1) (.o .cons (.v 3) (.o .cons (.v 4) (.o .cons (.v 5) (.o .cons (.v 7) .nil)))))))) (.u .b2i (.u .not (.o .eq (.o .get (.v 0) (.n 0)) (.n 0)))))⟩,
  ⟨[(.x (.u .not (.o .eqb (.u .not (.o .eq (.o .get (.v 0) (.n 0)) (.n 0))) (.u .not (.o .eq (.u (.wrap .i32) (.v 3)) (.n 0))))))], (.q (.u (.fld 2) (.u (.f 8) (.o .cons (.v 0) (.o .cons (.v 1) (.o .cons (.v 3) (.o .cons (.v 4) (.o .cons (.v 5) (.o .cons (.v 7) .nil)))))))) (.u (.wrap .i32) (.v 4)))⟩,
  ⟨[(.x (.u .not (.o .eqb (.u .not (.o .eq (.o .get (.v 0) (.n 0)) (.n 0))) (.u .not (.o .eq (.u (.wrap .i32) (.v 3)) (.n 0))))))], (.q (.u (.fld 3) (.u (.f 8) (.o .cons (.v 0) (.o .cons (.v 1) (.o .cons (.v 3) (.o .cons (.v 4) (.o .cons (.v 5) (.o .cons (.v 7) .nil)))))))) (.u (.wrap .i32) (.v 5)))⟩,
  ⟨[(.x (.o .eqb (.u .not (.o .eq (.o .get (.v 0) (.n 0)) (.n 0))) (.u .not (.o .eq (.u (.wrap .i32) (.v 3)) (.n 0)))))], (.q (.u (.fld 0) (.u (.f 8) (.o .cons (.v 0) (.o .cons (.v 1) (.o .cons (.v 3) (.o .cons (.v 4) (.o .cons (.v 5) (.o .cons (.v 7) .nil)))))))) (.n 0))⟩,
  ⟨[(.x (.o .eqb (.u .not (.o .eq (.o .get (.v 0) (.n 0)) (.n 0))) (.u .not (.o .eq (.u (.wrap .i32) (.v 3)) (.n 0)))))], (.q (.u (.fld 1) (.u (.f 8) (.o .cons (.v 0) (.o .cons (.v 1) (.o .cons (.v 3) (.o .cons (.v 4) (.o .cons (.v 5) (.o .cons (.v 7) .nil)))))))) (.u .b2i (.u .not (.o .eq (.o .get (.v 0) (.n 0)) (.n 0)))))⟩,
  ⟨[(.x (.o .eqb (.u .not (.o .eq (.o .get (.v 0) (.n 0)) (.n 0))) (.u .not (.o .eq (.u (.wrap .i32) (.v 3)) (.n 0)))))], (.q (.u (.fld 2) (.u (.f 8) (.o .cons (.v 0) (.o .cons (.v 1) (.o .cons (.v 3) (.o .cons (.v 4) (.o .cons (.v 5) (.o .cons (.v 7) .nil)))))))) (.u (.wrap .i32) (.v 4)))⟩,
  ⟨[(.x (.o .eqb (.u .not (.o .eq (.o .get (.v 0) (.n 0)) (.n 0))) (.u .not (.o .eq (.u (.wrap .i32) (.v 3)) (.n 0)))))], (.q (.u (.fld 3) (.u (.f 8) (.o .cons (.v 0) (.o .cons (.v 1) (.o .cons (.v 3) (.o .cons (.v 4) (.o .cons (.v 5) (.o .cons (.v 7) .nil)))))))) (.u (.wrap .i32) (.v 5)))⟩]
theorem ftrig_ff_run : runOne cS 100 16 (stepK sF_TRIG 8 1 false false) (((stepK sF_TRIG 8 1 false false)).outs.headD (.nilp, ((stepK sF_TRIG 8 1 false false)).h)) = some ftrig_ff_ob := by kernel_rfl
theorem ftrig_ff_all {I : Interp} (hI : ∀ u, I.f 8 u = fbF 8 u) (w : World) : ∀ o ∈ ftrig_ff_ob, o.ok ⟨w, I⟩ := by
  unfold ftrig_ff_ob
  simp only [List.forall_mem_cons, List.not_mem_nil, false_implies, implies_true, and_true]
  refine ⟨?_, ?_, ?_, ?_, ?_, ?_, ?_, ?_, ?_, ?_⟩
  · intro ρ hf _ hfs
    have hF : ∀ u, ρ.f 8 u = fbF 8 u := fun u => by rw [hf]; exact hI u
    simp only [List.forall_mem_cons, List.not_mem_nil, false_implies, implies_true, and_true, Fact.ok, X.den, den_not, den_b2i, den_wrap, den_get, den_lt, den_le, den_eq, den_min, den_max, den_add, den_sub, den_len, den_cons, den_mset, asB_b, asI_i, asL_l, asS_s, Bool.not_eq_true', ilt_iff, ile_iff, ieq_iff, ilt_f, ile_f, ieq_f, w32_def, w16_def, w64_def] at hfs
    simp only [Fact.ok, X.den, den_not, den_b2i, den_wrap, den_get, den_lt, den_le, den_eq, den_min, den_max, den_add, den_sub, den_len, den_cons, den_mset, den_asm, den_f1, hF, asB_b, asI_i, asL_l, asS_s, asM_m, fbF, arg1, fld_step, List.getD_cons_zero, List.getD_cons_succ, getD_asI, Bool.not_eq_true', ilt_iff, ile_iff, ieq_iff, ilt_f, ile_f, ieq_f, w32_def, w16_def, w64_def, w32_w64]
    clear hF hf
    refine congrArg U.m (funext fun q => ?_)
    simp only [getD_pastI hfs, asI_default, w32_zero, w16_zero, not_true, if_false, k_CLK, k_Q]
    by_cases hq : q = [67, 76, 75]
    · subst hq; rfl
    · simp only [hq, if_false]
  · intro ρ hf _ hfs
    have hF : ∀ u, ρ.f 8 u = fbF 8 u := fun u => by rw [hf]; exact hI u
    simp only [List.forall_mem_cons, List.not_mem_nil, false_implies, implies_true, and_true, Fact.ok, X.den, den_not, den_b2i, den_wrap, den_get, den_lt, den_le, den_eq, den_min, den_max, den_add, den_sub, den_len, den_cons, den_mset, asB_b, asI_i, asL_l, asS_s, Bool.not_eq_true', ilt_iff, ile_iff, ieq_iff, ilt_f, ile_f, ieq_f, w32_def, w16_def, w64_def] at hfs
    simp only [Fact.ok, X.den, den_not, den_b2i, den_wrap, den_get, den_lt, den_le, den_eq, den_min, den_max, den_add, den_sub, den_len, den_cons, den_mset, den_asm, den_f1, hF, asB_b, asI_i, asL_l, asS_s, asM_m, fbF, arg1, fld_step, List.getD_cons_zero, List.getD_cons_succ, getD_asI, Bool.not_eq_true', ilt_iff, ile_iff, ieq_iff, ilt_f, ile_f, ieq_f, w32_def, w16_def, w64_def, w32_w64]
    clear hF hf
    refine congrArg U.m (funext fun q => ?_)
    simp only [getD_pastI hfs, asI_default, w32_zero, w16_zero, not_true, if_false, k_CLK, k_Q]
    by_cases hq : q = [81]
    · subst hq; rfl
    · simp only [hq, if_false]
  all_goals
    intro ρ hf _ hfs
    have hF : ∀ u, ρ.f 8 u = fbF 8 u := fun u => by rw [hf]; exact hI u
    simp only [List.forall_mem_cons, List.not_mem_nil, false_implies, implies_true, and_true, Fact.ok, X.den, den_not, den_b2i, den_wrap, den_get, den_lt, den_le, den_eq, den_min, den_max, den_add, den_sub, den_len, den_cons, den_mset, asB_b, asI_i, asL_l, asS_s, Bool.not_eq_true', ilt_iff, ile_iff, ieq_iff, ilt_f, ile_f, ieq_f, w32_def, w16_def, w64_def] at hfs
    simp only [Fact.ok, X.den, den_not, den_b2i, den_wrap, den_get, den_lt, den_le, den_eq, den_min, den_max, den_add, den_sub, den_len, den_cons, den_mset, den_asm, den_f1, hF, asB_b, asI_i, asL_l, asS_s, asM_m, fbF, arg1, fld_step, List.getD_cons_zero, List.getD_cons_succ, getD_asI, Bool.not_eq_true', ilt_iff, ile_iff, ieq_iff, ilt_f, ile_f, ieq_f, w32_def, w16_def, w64_def, w32_w64]
    clear hF hf
    refine congrArg U.i ?_
    try simp only [tn0, tn1, tn2, tn3, tn4, w32_w64, Int.sub_self, w32_zero, max00, min0m] at hfs
    simp only [ftrigZ, nz, ne_eq, getD_asI, tn0, tn1, tn2, tn3, tn4, w64_up, w64_dn, w32_max0, w32_et, w16_inc, w16_dec, w16_w16, w32_w32, Int.sub_self, w32_zero, max00, min0m, w32_et0, shown]
    simp [-List.getD_eq_getElem?_getD, List.getD_cons_zero, List.getD_cons_succ, hfs, tr, shown, asI_default, w16_zero, w32_zero, min0m, max00, w32_et, w32_max0, w32_et0]
    all_goals
      simp only [den_eqb, asB_b, ieq] at hfs
      by_cases h1 : ((ρ.v 0).asL.getD 0 default).asI = 0 <;> by_cases h2 : w32 (ρ.v 3).asI = 0 <;> first | (simp [-List.getD_eq_getElem?_getD, h1, h2]; done) | (simp [-List.getD_eq_getElem?_getD, h1, h2] at hfs; done)
theorem ftrig_ff_ok {I : Interp} (hI : ∀ u, I.f 8 u = fbF 8 u) : CtrOk Tryd.prog I 16 (stepK sF_TRIG 8 1 false false) := .one (cS_ok I) (by kernel_rfl) ftrig_ff_run List.mem_cons_self (ftrig_ff_all hI)
def ftrig_ft_ob : List Obl := [⟨[(.x (.u .not (.o .lt (.n 0) (.u .len (.v 0)))))], (.q (.c .mset (.u .asm .nil) (.s [67, 76, 75]) (.u .b2i (.u .not (.o .eq (.o .get (.v 0) (.n 0)) (.n 0))))) (.u .asm .nil))⟩,
  ⟨[(.x (.u .not (.o .eqb (.u .not (.o .eq (.o .get (.v 0) (.n 0)) (.n 0))) (.u .not (.o .eq (.u (.wrap .i32) (.v 3)) (.n 0))))))], (.q (.u (.fld 0) (.u (.f 8) (.o .cons (.v 0) (.o .cons .nil (.o .cons (.v 3) (.o .cons (.v 4) (.o .cons (.v 5) (.o .cons (.v 7) .nil)))))))) (.u .b2i (.u .not (.o .eq (.u .b2i (.o .eq (.o .get (.v 0) (.n 0)) (.n 0))) (.n 0)))))⟩,
  ⟨[(.x (.u .not (.o .eqb (.u .not (.o .eq (.o .get (.v 0) (.n 0)) (.n 0))) (.u .not (.o .eq (.u (.wrap .i32) (.v 3)) (.n 0))))))], (.q (.u (.fld 1) (.u (.f 8) (.o .cons (.v 0) (.o .cons .nil (.o .cons (.v 3) (.o .cons (.v 4) (.o .cons (.v 5) (.o .cons (.v 7) .nil)))))))) (.u .b2i (.u .not (.o .eq (.o .get (.v 0) (.n 0)) (.n 0)))))⟩,
  ⟨[(.x (.u .not (.o .eqb (.u .not (.o .eq (.o .get (.v 0) (.n 0)) (.n 0))) (.u .not (.o .eq (.u (.wrap .i32) (.v 3)) (.n 0))))))], (.q (.u (.fld 2) (.u (.f 8) (.o .cons (.v 0) (.o .cons .nil (.o .cons (.v 3) (.o .cons (.v 4) (.o .cons (.v 5) (.o .cons (.v 7) .nil)))))))) (.u (.wrap .i32) (.v 4)))⟩,
  ⟨[(.x (.u .not (.o .eqb (.u .not (.o .eq (.o .get (.v 0) (.n 0)) (.n 0))) (.u .not (.o .eq (.u (.wrap .i32) (.v 3)) (.n 0))))))], (.q (.u (.fld 3) (.u (.f 8) (.o .cons (.v 0) (.o .cons .nil (.o .cons (.v 3) (.o .cons (.v 4) (.o .cons (.v 5) (.o .cons (.v 7) .nil)))))))) (.u (.wrap .i32) (.v 5)))⟩,
  ⟨[(.x (.o .eqb (.u .not (.o .eq (.o .get (.v 0) (.n 0)) (.n 0))) (.u .not (.o .eq (.u (.wrap .i32) (.v 3)) (.n 0)))))], (.q (.u (.fld 0) (.u (.f 8) (.o .cons (.v 0) (.o .cons .nil (.o .cons (.v 3) (.o .cons (.v 4) (.o .cons (.v 5) (.o .cons (.v 7) .nil)))))))) (.n 0))⟩,
  ⟨[(.x (.o .eqb (.u .not (.o .eq (.o .get (.v 0) (.n 0)) (.n 0))) (.u .not (.o .eq (.u (.wrap .i32) (.v 3)) (.n 0)))))], (.q (.u (.fld 1) (.u (.f 8) (.o .cons (.v 0) (.o .cons .nil (.o .cons (.v 3) (.o .cons (.v 4) (.o .cons (.v 5) (.o .cons (.v 7) .nil)))))))) (.u .b2i (.u .not (.o .eq (.o .get (.v 0) (.n 0)) (.n 0)))))⟩,
  ⟨[(.x (.o .eqb (.u .not (.o .eq (.o .get (.v 0) (.n 0)) (.n 0))) (.u .not (.o .eq (.u (.wrap .i32) (.v 3)) (.n 0)))))], (.q (.u (.fld 2) (.u (.f 8) (.o .cons (.v 0) (.o .cons .nil (.o .cons (.v 3) (.o .cons (.v 4) (.o .cons (.v 5) (.o .cons (.v 7) .nil)))))))) (.u (.wrap .i32) (.v 4)))⟩,
  ⟨[(.x (.o .eqb (.u .not (.o .eq (.o .get (.v 0) (.n 0)) (.n 0))) (.u .not (.o .eq (.u (.wrap .i32) (.v 3)) (.n 0)))))], (.q (.u (.fld 3) (.u (.f 8) (.o .cons (.v 0) (.o .cons .nil (.o .cons (.v 3) (.o .cons (.v 4) (.o .cons (.v 5) (.o .cons (.v 7) .nil)))))))) (.u (.wrap .i32) (.v 5)))⟩]
theorem ftrig_ft_run : runOne cS 100 16 (stepK sF_TRIG 8 1 false true) (((stepK sF_TRIG 8 1 false true)).outs.headD (.nilp, ((stepK sF_TRIG 8 1 false true)).h)) = some ftrig_ft_ob := by kernel_rfl
theorem ftrig_ft_all {I : Interp} (hI : ∀ u, I.f 8 u = fbF 8 u) (w : World) : ∀ o ∈ ftrig_ft_ob, o.ok ⟨w, I⟩ := by
  unfold ftrig_ft_ob
  simp only [List.forall_mem_cons, List.not_mem_nil, false_implies, implies_true, and_true]
  refine ⟨?_, ?_, ?_, ?_, ?_, ?_, ?_, ?_, ?_⟩
  · intro ρ hf _ hfs
    have hF : ∀ u, ρ.f 8 u = fbF 8 u := fun u => by rw [hf]; exact hI u
    simp only [List.forall_mem_cons, List.not_mem_nil, false_implies, implies_true, and_true, Fact.ok, X.den, den_not, den_b2i, den_wrap, den_get, den_lt, den_le, den_eq, den_min, den_max, den_add, den_sub, den_len, den_cons, den_mset, asB_b, asI_i, asL_l, asS_s, Bool.not_eq_true', ilt_iff, ile_iff, ieq_iff, ilt_f, ile_f, ieq_f, w32_def, w16_def, w64_def] at hfs
    simp only [Fact.ok, X.den, den_not, den_b2i, den_wrap, den_get, den_lt, den_le, den_eq, den_min, den_max, den_add, den_sub, den_len, den_cons, den_mset, den_asm, den_f1, hF, asB_b, asI_i, asL_l, asS_s, asM_m, fbF, arg1, fld_step, List.getD_cons_zero, List.getD_cons_succ, getD_asI, Bool.not_eq_true', ilt_iff, ile_iff, ieq_iff, ilt_f, ile_f, ieq_f, w32_def, w16_def, w64_def, w32_w64]
    clear hF hf
    refine congrArg U.m (funext fun q => ?_)
    simp only [getD_pastI hfs, asI_default, w32_zero, w16_zero, not_true, if_false, k_CLK, k_Q]
    by_cases hq : q = [67, 76, 75]
    · subst hq; rfl
    · simp only [hq, if_false]
  all_goals
    intro ρ hf _ hfs
    have hF : ∀ u, ρ.f 8 u = fbF 8 u := fun u => by rw [hf]; exact hI u
    simp only [List.forall_mem_cons, List.not_mem_nil, false_implies, implies_true, and_true, Fact.ok, X.den, den_not, den_b2i, den_wrap, den_get, den_lt, den_le, den_eq, den_min, den_max, den_add, den_sub, den_len, den_cons, den_mset, asB_b, asI_i, asL_l, asS_s, Bool.not_eq_true', ilt_iff, ile_iff, ieq_iff, ilt_f, ile_f, ieq_f, w32_def, w16_def, w64_def] at hfs
    simp only [Fact.ok, X.den, den_not, den_b2i, den_wrap, den_get, den_lt, den_le, den_eq, den_min, den_max, den_add, den_sub, den_len, den_cons, den_mset, den_asm, den_f1, hF, asB_b, asI_i, asL_l, asS_s, asM_m, fbF, arg1, fld_step, List.getD_cons_zero, List.getD_cons_succ, getD_asI, Bool.not_eq_true', ilt_iff, ile_iff, ieq_iff, ilt_f, ile_f, ieq_f, w32_def, w16_def, w64_def, w32_w64]
    clear hF hf
    refine congrArg U.i ?_
    try simp only [tn0, tn1, tn2, tn3, tn4, w32_w64, Int.sub_self, w32_zero, max00, min0m] at hfs
    simp only [ftrigZ, nz, ne_eq, getD_asI, tn0, tn1, tn2, tn3, tn4, w64_up, w64_dn, w32_max0, w32_et, w16_inc, w16_dec, w16_w16, w32_w32, Int.sub_self, w32_zero, max00, min0m, w32_et0, shown]
    simp [-List.getD_eq_getElem?_getD, List.getD_cons_zero, List.getD_cons_succ, hfs, tr, shown, asI_default, w16_zero, w32_zero, min0m, max00, w32_et, w32_max0, w32_et0]
    all_goals
      simp only [den_eqb, asB_b, ieq] at hfs
      by_cases h1 : ((ρ.v 0).asL.getD 0 default).asI = 0 <;> by_cases h2 : w32 (ρ.v 3).asI = 0 <;> first | (simp [-List.getD_eq_getElem?_getD, h1, h2]; done) | (simp [-List.getD_eq_getElem?_getD, h1, h2] at hfs; done)
theorem ftrig_ft_ok {I : Interp} (hI : ∀ u, I.f 8 u = fbF 8 u) : CtrOk Tryd.prog I 16 (stepK sF_TRIG 8 1 false true) := .one (cS_ok I) (by kernel_rfl) ftrig_ft_run List.mem_cons_self (ftrig_ft_all hI)
def ftrig_tf_ob : List Obl := [⟨[(.x (.u .not (.o .lt (.n 0) (.u .len (.v 1)))))], (.q (.c .mset (.u .asm .nil) (.s [81]) (.u .b2i (.u .not (.o .eq (.o .get (.v 1) (.n 0)) (.n 0))))) (.u .asm .nil))⟩,
  ⟨[(.x (.u .not (.o .eq (.u (.wrap .i32) (.v 3)) (.n 0))))], (.q (.u (.fld 0) (.u (.f 8) (.o .cons .nil (.o .cons (.v 1) (.o .cons (.v 3) (.o .cons (.v 4) (.o .cons (.v 5) (.o .cons (.v 7) .nil)))))))) (.n 1))⟩,
  ⟨[(.x (.u .not (.o .eq (.u (.wrap .i32) (.v 3)) (.n 0))))], (.q (.u (.fld 1) (.u (.f 8) (.o .cons .nil (.o .cons (.v 1) (.o .cons (.v 3) (.o .cons (.v 4) (.o .cons (.v 5) (.o .cons (.v 7) .nil)))))))) (.n 0))⟩,
  ⟨[(.x (.u .not (.o .eq (.u (.wrap .i32) (.v 3)) (.n 0))))], (.q (.u (.fld 2) (.u (.f 8) (.o .cons .nil (.o .cons (.v 1) (.o .cons (.v 3) (.o .cons (.v 4) (.o .cons (.v 5) (.o .cons (.v 7) .nil)))))))) (.u (.wrap .i32) (.v 4)))⟩,
  ⟨[(.x (.u .not (.o .eq (.u (.wrap .i32) (.v 3)) (.n 0))))], (.q (.u (.fld 3) (.u (.f 8) (.o .cons .nil (.o .cons (.v 1) (.o .cons (.v 3) (.o .cons (.v 4) (.o .cons (.v 5) (.o .cons (.v 7) .nil)))))))) (.u (.wrap .i32) (.v 5)))⟩,
  ⟨[(.x (.o .eq (.u (.wrap .i32) (.v 3)) (.n 0)))], (.q (.u (.fld 0) (.u (.f 8) (.o .cons .nil (.o .cons (.v 1) (.o .cons (.v 3) (.o .cons (.v 4) (.o .cons (.v 5) (.o .cons (.v 7) .nil)))))))) (.n 0))⟩,
  ⟨[(.x (.o .eq (.u (.wrap .i32) (.v 3)) (.n 0)))], (.q (.u (.fld 1) (.u (.f 8) (.o .cons .nil (.o .cons (.v 1) (.o .cons (.v 3) (.o .cons (.v 4) (.o .cons (.v 5) (.o .cons (.v 7) .nil)))))))) (.n 0))⟩,
  ⟨[(.x (.o .eq (.u (.wrap .i32) (.v 3)) (.n 0)))], (.q (.u (.fld 2) (.u (.f 8) (.o .cons .nil (.o .cons (.v 1) (.o .cons (.v 3) (.o .cons (.v 4) (.o .cons (.v 5) (.o .cons (.v 7) .nil)))))))) (.u (.wrap .i32) (.v 4)))⟩,
  ⟨[(.x (.o .eq (.u (.wrap .i32) (.v 3)) (.n 0)))], (.q (.u (.fld 3) (.u (.f 8) (.o .cons .nil (.o .cons (.v 1) (.o .cons (.v 3) (.o .cons (.v 4) (.o .cons (.v 5) (.o .cons (.v 7) .nil)))))))) (.u (.wrap .i32) (.v 5)))⟩]
theorem ftrig_tf_run : runOne cS 100 16 (stepK sF_TRIG 8 1 true false) (((stepK sF_TRIG 8 1 true false)).outs.headD (.nilp, ((stepK sF_TRIG 8 1 true false)).h)) = some ftrig_tf_ob := by kernel_rfl
theorem ftrig_tf_all {I : Interp} (hI : ∀ u, I.f 8 u = fbF 8 u) (w : World) : ∀ o ∈ ftrig_tf_ob, o.ok ⟨w, I⟩ := by
  unfold ftrig_tf_ob
  simp only [List.forall_mem_cons, List.not_mem_nil, false_implies, implies_true, and_true]
  refine ⟨?_, ?_, ?_, ?_, ?_, ?_, ?_, ?_, ?_⟩
  · intro ρ hf _ hfs
    have hF : ∀ u, ρ.f 8 u = fbF 8 u := fun u => by rw [hf]; exact hI u
    simp only [List.forall_mem_cons, List.not_mem_nil, false_implies, implies_true, and_true, Fact.ok, X.den, den_not, den_b2i, den_wrap, den_get, den_lt, den_le, den_eq, den_min, den_max, den_add, den_sub, den_len, den_cons, den_mset, asB_b, asI_i, asL_l, asS_s, Bool.not_eq_true', ilt_iff, ile_iff, ieq_iff, ilt_f, ile_f, ieq_f, w32_def, w16_def, w64_def] at hfs
    simp only [Fact.ok, X.den, den_not, den_b2i, den_wrap, den_get, den_lt, den_le, den_eq, den_min, den_max, den_add, den_sub, den_len, den_cons, den_mset, den_asm, den_f1, hF, asB_b, asI_i, asL_l, asS_s, asM_m, fbF, arg1, fld_step, List.getD_cons_zero, List.getD_cons_succ, getD_asI, Bool.not_eq_true', ilt_iff, ile_iff, ieq_iff, ilt_f, ile_f, ieq_f, w32_def, w16_def, w64_def, w32_w64]
    clear hF hf
    refine congrArg U.m (funext fun q => ?_)
    simp only [getD_pastI hfs, asI_default, w32_zero, w16_zero, not_true, if_false, k_CLK, k_Q]
    by_cases hq : q = [81]
    · subst hq; rfl
    · simp only [hq, if_false]
  all_goals
    intro ρ hf _ hfs
    have hF : ∀ u, ρ.f 8 u = fbF 8 u := fun u => by rw [hf]; exact hI u
    simp only [List.forall_mem_cons, List.not_mem_nil, false_implies, implies_true, and_true, Fact.ok, X.den, den_not, den_b2i, den_wrap, den_get, den_lt, den_le, den_eq, den_min, den_max, den_add, den_sub, den_len, den_cons, den_mset, asB_b, asI_i, asL_l, asS_s, Bool.not_eq_true', ilt_iff, ile_iff, ieq_iff, ilt_f, ile_f, ieq_f, w32_def, w16_def, w64_def] at hfs
    simp only [Fact.ok, X.den, den_not, den_b2i, den_wrap, den_get, den_lt, den_le, den_eq, den_min, den_max, den_add, den_sub, den_len, den_cons, den_mset, den_asm, den_f1, hF, asB_b, asI_i, asL_l, asS_s, asM_m, fbF, arg1, fld_step, List.getD_cons_zero, List.getD_cons_succ, getD_asI, Bool.not_eq_true', ilt_iff, ile_iff, ieq_iff, ilt_f, ile_f, ieq_f, w32_def, w16_def, w64_def, w32_w64]
    clear hF hf
    refine congrArg U.i ?_
    try simp only [tn0, tn1, tn2, tn3, tn4, w32_w64, Int.sub_self, w32_zero, max00, min0m] at hfs
    simp only [ftrigZ, nz, ne_eq, getD_asI, tn0, tn1, tn2, tn3, tn4, w64_up, w64_dn, w32_max0, w32_et, w16_inc, w16_dec, w16_w16, w32_w32, Int.sub_self, w32_zero, max00, min0m, w32_et0, shown]
    simp [-List.getD_eq_getElem?_getD, List.getD_cons_zero, List.getD_cons_succ, hfs, tr, shown, asI_default, w16_zero, w32_zero, min0m, max00, w32_et, w32_max0, w32_et0]
    all_goals
      simp only [den_eqb, asB_b, ieq] at hfs
      by_cases h1 : ((ρ.v 0).asL.getD 0 default).asI = 0 <;> by_cases h2 : w32 (ρ.v 3).asI = 0 <;> first | (simp [-List.getD_eq_getElem?_getD, h1, h2]; done) | (simp [-List.getD_eq_getElem?_getD, h1, h2] at hfs; done)
theorem ftrig_tf_ok {I : Interp} (hI : ∀ u, I.f 8 u = fbF 8 u) : CtrOk Tryd.prog I 16 (stepK sF_TRIG 8 1 true false) := .one (cS_ok I) (by kernel_rfl) ftrig_tf_run List.mem_cons_self (ftrig_tf_all hI)
def ftrig_tt_ob : List Obl := [⟨[(.x (.u .not (.o .eq (.u (.wrap .i32) (.v 3)) (.n 0))))], (.q (.u (.fld 0) (.u (.f 8) (.o .cons .nil (.o .cons .nil (.o .cons (.v 3) (.o .cons (.v 4) (.o .cons (.v 5) (.o .cons (.v 7) .nil)))))))) (.n 1))⟩,
  ⟨[(.x (.u .not (.o .eq (.u (.wrap .i32) (.v 3)) (.n 0))))], (.q (.u (.fld 1) (.u (.f 8) (.o .cons .nil (.o .cons .nil (.o .cons (.v 3) (.o .cons (.v 4) (.o .cons (.v 5) (.o .cons (.v 7) .nil)))))))) (.n 0))⟩,
  ⟨[(.x (.u .not (.o .eq (.u (.wrap .i32) (.v 3)) (.n 0))))], (.q (.u (.fld 2) (.u (.f 8) (.o .cons .nil (.o .cons .nil (.o .cons (.v 3) (.o .cons (.v 4) (.o .cons (.v 5) (.o .cons (.v 7) .nil)))))))) (.u (.wrap .i32) (.v 4)))⟩,
  ⟨[(.x (.u .not (.o .eq (.u (.wrap .i32) (.v 3)) (.n 0))))], (.q (.u (.fld 3) (.u (.f 8) (.o .cons .nil (.o .cons .nil (.o .cons (.v 3) (.o .cons (.v 4) (.o .cons (.v 5) (.o .cons (.v 7) .nil)))))))) (.u (.wrap .i32) (.v 5)))⟩,
  ⟨[(.x (.o .eq (.u (.wrap .i32) (.v 3)) (.n 0)))], (.q (.u (.fld 0) (.u (.f 8) (.o .cons .nil (.o .cons .nil (.o .cons (.v 3) (.o .cons (.v 4) (.o .cons (.v 5) (.o .cons (.v 7) .nil)))))))) (.n 0))⟩,
  ⟨[(.x (.o .eq (.u (.wrap .i32) (.v 3)) (.n 0)))], (.q (.u (.fld 1) (.u (.f 8) (.o .cons .nil (.o .cons .nil (.o .cons (.v 3) (.o .cons (.v 4) (.o .cons (.v 5) (.o .cons (.v 7) .nil)))))))) (.n 0))⟩,
  ⟨[(.x (.o .eq (.u (.wrap .i32) (.v 3)) (.n 0)))], (.q (.u (.fld 2) (.u (.f 8) (.o .cons .nil (.o .cons .nil (.o .cons (.v 3) (.o .cons (.v 4) (.o .cons (.v 5) (.o .cons (.v 7) .nil)))))))) (.u (.wrap .i32) (.v 4)))⟩,
  ⟨[(.x (.o .eq (.u (.wrap .i32) (.v 3)) (.n 0)))], (.q (.u (.fld 3) (.u (.f 8) (.o .cons .nil (.o .cons .nil (.o .cons (.v 3) (.o .cons (.v 4) (.o .cons (.v 5) (.o .cons (.v 7) .nil)))))))) (.u (.wrap .i32) (.v 5)))⟩]
theorem ftrig_tt_run : runOne cS 100 16 (stepK sF_TRIG 8 1 true true) (((stepK sF_TRIG 8 1 true true)).outs.headD (.nilp, ((stepK sF_TRIG 8 1 true true)).h)) = some ftrig_tt_ob := by kernel_rfl
theorem ftrig_tt_all {I : Interp} (hI : ∀ u, I.f 8 u = fbF 8 u) (w : World) : ∀ o ∈ ftrig_tt_ob, o.ok ⟨w, I⟩ := by
  unfold ftrig_tt_ob
  simp only [List.forall_mem_cons, List.not_mem_nil, false_implies, implies_true, and_true]
  refine ⟨?_, ?_, ?_, ?_, ?_, ?_, ?_, ?_⟩
  all_goals
    intro ρ hf _ hfs
    have hF : ∀ u, ρ.f 8 u = fbF 8 u := fun u => by rw [hf]; exact hI u
    simp only [List.forall_mem_cons, List.not_mem_nil, false_implies, implies_true, and_true, Fact.ok, X.den, den_not, den_b2i, den_wrap, den_get, den_lt, den_le, den_eq, den_min, den_max, den_add, den_sub, den_len, den_cons, den_mset, asB_b, asI_i, asL_l, asS_s, Bool.not_eq_true', ilt_iff, ile_iff, ieq_iff, ilt_f, ile_f, ieq_f, w32_def, w16_def, w64_def] at hfs
    simp only [Fact.ok, X.den, den_not, den_b2i, den_wrap, den_get, den_lt, den_le, den_eq, den_min, den_max, den_add, den_sub, den_len, den_cons, den_mset, den_asm, den_f1, hF, asB_b, asI_i, asL_l, asS_s, asM_m, fbF, arg1, fld_step, List.getD_cons_zero, List.getD_cons_succ, getD_asI, Bool.not_eq_true', ilt_iff, ile_iff, ieq_iff, ilt_f, ile_f, ieq_f, w32_def, w16_def, w64_def, w32_w64]
    clear hF hf
    refine congrArg U.i ?_
    try simp only [tn0, tn1, tn2, tn3, tn4, w32_w64, Int.sub_self, w32_zero, max00, min0m] at hfs
    simp only [ftrigZ, nz, ne_eq, getD_asI, tn0, tn1, tn2, tn3, tn4, w64_up, w64_dn, w32_max0, w32_et, w16_inc, w16_dec, w16_w16, w32_w32, Int.sub_self, w32_zero, max00, min0m, w32_et0, shown]
    simp [-List.getD_eq_getElem?_getD, List.getD_cons_zero, List.getD_cons_succ, hfs, tr, shown, asI_default, w16_zero, w32_zero, min0m, max00, w32_et, w32_max0, w32_et0]
    all_goals
      simp only [den_eqb, asB_b, ieq] at hfs
      by_cases h1 : ((ρ.v 0).asL.getD 0 default).asI = 0 <;> by_cases h2 : w32 (ρ.v 3).asI = 0 <;> first | (simp [-List.getD_eq_getElem?_getD, h1, h2]; done) | (simp [-List.getD_eq_getElem?_getD, h1, h2] at hfs; done)
theorem ftrig_tt_ok {I : Interp} (hI : ∀ u, I.f 8 u = fbF 8 u) : CtrOk Tryd.prog I 16 (stepK sF_TRIG 8 1 true true) := .one (cS_ok I) (by kernel_rfl) ftrig_tt_run List.mem_cons_self (ftrig_tt_all hI)
end Go.Proofs.YtkphkjffcpkhjaaDoor
end
