import Derived.Test.YtkphkjffcpkhjaaDoorSeS0
/-! fb.Step of CTU: the runs (printed by gen/steps.py). -/
noncomputable section
set_option linter.unusedSimpArgs false
set_option linter.unusedVariables false
namespace Go.Proofs.YtkphkjffcpkhjaaDoor
open Go Go.SE
set_option maxRecDepth 1000000
def ctu_ff_ob : List Obl := [⟨[(.x (.u .not (.o .lt (.n 0) (.u .len (.v 0)))))], (.q (.c .mset (.u .asm .nil) (.s [67, 85]) (.u .b2i (.u .not (.o .eq (.o .get (.v 0) (.n 0)) (.n 0))))) (.u .asm .nil))⟩,
  ⟨[(.x (.u .not (.o .lt (.n 1) (.u .len (.v 0)))))], (.q (.c .mset (.c .mset (.u .asm .nil) (.s [67, 85]) (.u .b2i (.u .not (.o .eq (.o .get (.v 0) (.n 0)) (.n 0))))) (.s [82]) (.u .b2i (.u .not (.o .eq (.o .get (.v 0) (.n 1)) (.n 0))))) (.c .mset (.u .asm .nil) (.s [67, 85]) (.u .b2i (.u .not (.o .eq (.o .get (.v 0) (.n 0)) (.n 0))))))⟩,
  ⟨[(.x (.u .not (.o .lt (.n 2) (.u .len (.v 0)))))], (.q (.c .mset (.c .mset (.c .mset (.u .asm .nil) (.s [67, 85]) (.u .b2i (.u .not (.o .eq (.o .get (.v 0) (.n 0)) (.n 0))))) (.s [80, 86]) (.u (.wrap .i16) (.o .get (.v 0) (.n 2)))) (.s [82]) (.u .b2i (.u .not (.o .eq (.o .get (.v 0) (.n 1)) (.n 0))))) (.c .mset (.c .mset (.u .asm .nil) (.s [67, 85]) (.u .b2i (.u .not (.o .eq (.o .get (.v 0) (.n 0)) (.n 0))))) (.s [82]) (.u .b2i (.u .not (.o .eq (.o .get (.v 0) (.n 1)) (.n 0))))))⟩,
  ⟨[(.x (.u .not (.o .lt (.n 0) (.u .len (.v 1)))))], (.q (.c .mset (.c .mset (.c .mset (.c .mset (.u .asm .nil) (.s [67, 85]) (.u .b2i (.u .not (.o .eq (.o .get (.v 0) (.n 0)) (.n 0))))) (.s [80, 86]) (.u (.wrap .i16) (.o .get (.v 0) (.n 2)))) (.s [81]) (.u .b2i (.u .not (.o .eq (.o .get (.v 1) (.n 0)) (.n 0))))) (.s [82]) (.u .b2i (.u .not (.o .eq (.o .get (.v 0) (.n 1)) (.n 0))))) (.c .mset (.c .mset (.c .mset (.u .asm .nil) (.s [67, 85]) (.u .b2i (.u .not (.o .eq (.o .get (.v 0) (.n 0)) (.n 0))))) (.s [80, 86]) (.u (.wrap .i16) (.o .get (.v 0) (.n 2)))) (.s [82]) (.u .b2i (.u .not (.o .eq (.o .get (.v 0) (.n 1)) (.n 0))))))⟩,
  ⟨[(.x (.u .not (.o .lt (.n 1) (.u .len (.v 1)))))], (.q (.c .mset (.c .mset (.c .mset (.c .mset (.c .mset (.u .asm .nil) (.s [67, 85]) (.u .b2i (.u .not (.o .eq (.o .get (.v 0) (.n 0)) (.n 0))))) (.s [67, 86]) (.u (.wrap .i16) (.o .get (.v 1) (.n 1)))) (.s [80, 86]) (.u (.wrap .i16) (.o .get (.v 0) (.n 2)))) (.s [81]) (.u .b2i (.u .not (.o .eq (.o .get (.v 1) (.n 0)) (.n 0))))) (.s [82]) (.u .b2i (.u .not (.o .eq (.o .get (.v 0) (.n 1)) (.n 0))))) (.c .mset (.c .mset (.c .mset (.c .mset (.u .asm .nil) (.s [67, 85]) (.u .b2i (.u .not (.o .eq (.o .get (.v 0) (.n 0)) (.n 0))))) (.s [80, 86]) (.u (.wrap .i16) (.o .get (.v 0) (.n 2)))) (.s [81]) (.u .b2i (.u .not (.o .eq (.o .get (.v 1) (.n 0)) (.n 0))))) (.s [82]) (.u .b2i (.u .not (.o .eq (.o .get (.v 0) (.n 1)) (.n 0))))))⟩,
  ⟨[(.x (.u .not (.o .eq (.o .get (.v 0) (.n 1)) (.n 0)))), (.x (.u .not (.o .eq (.o .get (.v 0) (.n 0)) (.n 0))))], (.q (.u (.fld 0) (.u (.f 4) (.o .cons (.v 0) (.o .cons (.v 1) (.o .cons (.v 3) (.o .cons (.v 4) (.o .cons (.v 5) (.o .cons (.v 7) .nil)))))))) (.u .b2i (.u .not (.o .eq (.u .b2i (.o .le (.u (.wrap .i16) (.o .get (.v 0) (.n 2))) (.n 0))) (.n 0)))))⟩,
  ⟨[(.x (.u .not (.o .eq (.o .get (.v 0) (.n 1)) (.n 0)))), (.x (.u .not (.o .eq (.o .get (.v 0) (.n 0)) (.n 0))))], (.q (.u (.fld 1) (.u (.f 4) (.o .cons (.v 0) (.o .cons (.v 1) (.o .cons (.v 3) (.o .cons (.v 4) (.o .cons (.v 5) (.o .cons (.v 7) .nil)))))))) (.n 0))⟩,
  ⟨[(.x (.u .not (.o .eq (.o .get (.v 0) (.n 1)) (.n 0)))), (.x (.u .not (.o .eq (.o .get (.v 0) (.n 0)) (.n 0))))], (.q (.u (.fld 2) (.u (.f 4) (.o .cons (.v 0) (.o .cons (.v 1) (.o .cons (.v 3) (.o .cons (.v 4) (.o .cons (.v 5) (.o .cons (.v 7) .nil)))))))) (.u .b2i (.u .not (.o .eq (.o .get (.v 0) (.n 0)) (.n 0)))))⟩,
  ⟨[(.x (.u .not (.o .eq (.o .get (.v 0) (.n 1)) (.n 0)))), (.x (.u .not (.o .eq (.o .get (.v 0) (.n 0)) (.n 0))))], (.q (.u (.fld 3) (.u (.f 4) (.o .cons (.v 0) (.o .cons (.v 1) (.o .cons (.v 3) (.o .cons (.v 4) (.o .cons (.v 5) (.o .cons (.v 7) .nil)))))))) (.u (.wrap .i32) (.v 4)))⟩,
  ⟨[(.x (.u .not (.o .eq (.o .get (.v 0) (.n 1)) (.n 0)))), (.x (.u .not (.o .eq (.o .get (.v 0) (.n 0)) (.n 0))))], (.q (.u (.fld 4) (.u (.f 4) (.o .cons (.v 0) (.o .cons (.v 1) (.o .cons (.v 3) (.o .cons (.v 4) (.o .cons (.v 5) (.o .cons (.v 7) .nil)))))))) (.u (.wrap .i32) (.v 5)))⟩,
  ⟨[(.x (.o .eq (.u (.wrap .i32) (.v 3)) (.n 0))), (.x (.o .eq (.o .get (.v 0) (.n 1)) (.n 0))), (.x (.u .not (.o .eq (.o .get (.v 0) (.n 0)) (.n 0))))], (.q (.u (.fld 0) (.u (.f 4) (.o .cons (.v 0) (.o .cons (.v 1) (.o .cons (.v 3) (.o .cons (.v 4) (.o .cons (.v 5) (.o .cons (.v 7) .nil)))))))) (.u .b2i (.u .not (.o .eq (.u .b2i (.o .le (.u (.wrap .i16) (.o .get (.v 0) (.n 2))) (.o .min (.u (.wrap .i64) (.o .add (.u (.wrap .i16) (.o .get (.v 1) (.n 1))) (.n 1))) (.n 32767)))) (.n 0)))))⟩,
  ⟨[(.x (.o .eq (.u (.wrap .i32) (.v 3)) (.n 0))), (.x (.o .eq (.o .get (.v 0) (.n 1)) (.n 0))), (.x (.u .not (.o .eq (.o .get (.v 0) (.n 0)) (.n 0))))], (.q (.u (.fld 1) (.u (.f 4) (.o .cons (.v 0) (.o .cons (.v 1) (.o .cons (.v 3) (.o .cons (.v 4) (.o .cons (.v 5) (.o .cons (.v 7) .nil)))))))) (.u (.wrap .i16) (.o .min (.u (.wrap .i64) (.o .add (.u (.wrap .i16) (.o .get (.v 1) (.n 1))) (.n 1))) (.n 32767))))⟩,
  ⟨[(.x (.o .eq (.u (.wrap .i32) (.v 3)) (.n 0))), (.x (.o .eq (.o .get (.v 0) (.n 1)) (.n 0))), (.x (.u .not (.o .eq (.o .get (.v 0) (.n 0)) (.n 0))))], (.q (.u (.fld 2) (.u (.f 4) (.o .cons (.v 0) (.o .cons (.v 1) (.o .cons (.v 3) (.o .cons (.v 4) (.o .cons (.v 5) (.o .cons (.v 7) .nil)))))))) (.u .b2i (.u .not (.o .eq (.o .get (.v 0) (.n 0)) (.n 0)))))⟩,
  ⟨[(.x (.o .eq (.u (.wrap .i32) (.v 3)) (.n 0))), (.x (.o .eq (.o .get (.v 0) (.n 1)) (.n 0))), (.x (.u .not (.o .eq (.o .get (.v 0) (.n 0)) (.n 0))))], (.q (.u (.fld 3) (.u (.f 4) (.o .cons (.v 0) (.o .cons (.v 1) (.o .cons (.v 3) (.o .cons (.v 4) (.o .cons (.v 5) (.o .cons (.v 7) .nil)))))))) (.u (.wrap .i32) (.v 4)))⟩,
  ⟨[(.x (.o .eq (.u (.wrap .i32) (.v 3)) (.n 0))), (.x (.o .eq (.o .get (.v 0) (.n 1)) (.n 0))), (.x (.u .not (.o .eq (.o .get (.v 0) (.n 0)) (.n 0))))], (.q (.u (.fld 4) (.u (.f 4) (.o .cons (.v 0) (.o .cons (.v 1) (.o .cons (.v 3) (.o .cons (.v 4) (.o .cons (.v 5) (.o .cons (.v 7) .nil)))))))) (.u (.wrap .i32) (.v 5)))⟩,
  ⟨[(.x (.u .not (.o .eq (.u (.wrap .i32) (.v 3)) (.n 0)))), (.x (.o .eq (.o .get (.v 0) (.n 1)) (.n 0))), (.x (.u .not (.o .eq (.o .get (.v 0) (.n 0)) (.n 0))))], (.q (.u (.fld 0) (.u (.f 4) (.o .cons (.v 0) (.o .cons (.v 1) (.o .cons (.v 3) (.o .cons (.v 4) (.o .cons (.v 5) (.o .cons (.v 7) .nil)))))))) (.u .b2i (.u .not (.o .eq (.u .b2i (.o .le (.u (.wrap .i16) (.o .get (.v 0) (.n 2))) (.u (.wrap .i16) (.o .get (.v 1) (.n 1))))) (.n 0)))))⟩,
  ⟨[(.x (.u .not (.o .eq (.u (.wrap .i32) (.v 3)) (.n 0)))), (.x (.o .eq (.o .get (.v 0) (.n 1)) (.n 0))), (.x (.u .not (.o .eq (.o .get (.v 0) (.n 0)) (.n 0))))], (.q (.u (.fld 1) (.u (.f 4) (.o .cons (.v 0) (.o .cons (.v 1) (.o .cons (.v 3) (.o .cons (.v 4) (.o .cons (.v 5) (.o .cons (.v 7) .nil)))))))) (.u (.wrap .i16) (.u (.wrap .i16) (.o .get (.v 1) (.n 1)))))⟩,
  ⟨[(.x (.u .not (.o .eq (.u (.wrap .i32) (.v 3)) (.n 0)))), (.x (.o .eq (.o .get (.v 0) (.n 1)) (.n 0))), (.x (.u .not (.o .eq (.o .get (.v 0) (.n 0)) (.n 0))))], (.q (.u (.fld 2) (.u (.f 4) (.o .cons (.v 0) (.o .cons (.v 1) (.o .cons (.v 3) (.o .cons (.v 4) (.o .cons (.v 5) (.o .cons (.v 7) .nil)))))))) (.u .b2i (.u .not (.o .eq (.o .get (.v 0) (.n 0)) (.n 0)))))⟩,
  ⟨[(.x (.u .not (.o .eq (.u (.wrap .i32) (.v 3)) (.n 0)))), (.x (.o .eq (.o .get (.v 0) (.n 1)) (.n 0))), (.x (.u .not (.o .eq (.o .get (.v 0) (.n 0)) (.n 0))))], (.q (.u (.fld 3) (.u (.f 4) (.o .cons (.v 0) (.o .cons (.v 1) (.o .cons (.v 3) (.o .cons (.v 4) (.o .cons (.v 5) (.o .cons (.v 7) .nil)))))))) (.u (.wrap .i32) (.v 4)))⟩,
  ⟨[(.x (.u .not (.o .eq (.u (.wrap .i32) (.v 3)) (.n 0)))), (.x (.o .eq (.o .get (.v 0) (.n 1)) (.n 0))), (.x (.u .not (.o .eq (.o .get (.v 0) (.n 0)) (.n 0))))], (.q (.u (.fld 4) (.u (.f 4) (.o .cons (.v 0) (.o .cons (.v 1) (.o .cons (.v 3) (.o .cons (.v 4) (.o .cons (.v 5) (.o .cons (.v 7) .nil)))))))) (.u (.wrap .i32) (.v 5)))⟩,
  ⟨[(.x (.u .not (.o .eq (.o .get (.v 0) (.n 1)) (.n 0)))), (.x (.o .eq (.o .get (.v 0) (.n 0)) (.n 0)))], (.q (.u (.fld 0) (.u (.f 4) (.o .cons (.v 0) (.o .cons (.v 1) (.o .cons (.v 3) (.o .cons (.v 4) (.o .cons (.v 5) (.o .cons (.v 7) .nil)))))))) (.u .b2i (.u .not (.o .eq (.u .b2i (.o .le (.u (.wrap .i16) (.o .get (.v 0) (.n 2))) (.n 0))) (.n 0)))))⟩,
  ⟨[(.x (.u .not (.o .eq (.o .get (.v 0) (.n 1)) (.n 0)))), (.x (.o .eq (.o .get (.v 0) (.n 0)) (.n 0)))], (.q (.u (.fld 1) (.u (.f 4) (.o .cons (.v 0) (.o .cons (.v 1) (.o .cons (.v 3) (.o .cons (.v 4) (.o .cons (.v 5) (.o .cons (.v 7) .nil)))))))) (.n 0))⟩,
  ⟨[(.x (.u .not (.o .eq (.o .get (.v 0) (.n 1)) (.n 0)))), (.x (.o .eq (.o .get (.v 0) (.n 0)) (.n 0)))], (.q (.u (.fld 2) (.u (.f 4) (.o .cons (.v 0) (.o .cons (.v 1) (.o .cons (.v 3) (.o .cons (.v 4) (.o .cons (.v 5) (.o .cons (.v 7) .nil)))))))) (.u .b2i (.u .not (.o .eq (.o .get (.v 0) (.n 0)) (.n 0)))))⟩,
  ⟨[(.x (.u .not (.o .eq (.o .get (.v 0) (.n 1)) (.n 0)))), (.x (.o .eq (.o .get (.v 0) (.n 0)) (.n 0)))], (.q (.u (.fld 3) (.u (.f 4) (.o .cons (.v 0) (.o .cons (.v 1) (.o .cons (.v 3) (.o .cons (.v 4) (.o .cons (.v 5) (.o .cons (.v 7) .nil)))))))) (.u (.wrap .i32) (.v 4)))⟩,
  ⟨[(.x (.u .not (.o .eq (.o .get (.v 0) (.n 1)) (.n 0)))), (.x (.o .eq (.o .get (.v 0) (.n 0)) (.n 0)))], (.q (.u (.fld 4) (.u (.f 4) (.o .cons (.v 0) (.o .cons (.v 1) (.o .cons (.v 3) (.o .cons (.v 4) (.o .cons (.v 5) (.o .cons (.v 7) .nil)))))))) (.u (.wrap .i32) (.v 5)))⟩,
  ⟨[(.x (.o .eq (.o .get (.v 0) (.n 1)) (.n 0))), (.x (.o .eq (.o .get (.v 0) (.n 0)) (.n 0)))], (.q (.u (.fld 0) (.u (.f 4) (.o .cons (.v 0) (.o .cons (.v 1) (.o .cons (.v 3) (.o .cons (.v 4) (.o .cons (.v 5) (.o .cons (.v 7) .nil)))))))) (.u .b2i (.u .not (.o .eq (.u .b2i (.o .le (.u (.wrap .i16) (.o .get (.v 0) (.n 2))) (.u (.wrap .i16) (.o .get (.v 1) (.n 1))))) (.n 0)))))⟩,
  ⟨[(.x (.o .eq (.o .get (.v 0) (.n 1)) (.n 0))), (.x (.o .eq (.o .get (.v 0) (.n 0)) (.n 0)))], (.q (.u (.fld 1) (.u (.f 4) (.o .cons (.v 0) (.o .cons (.v 1) (.o .cons (.v 3) (.o .cons (.v 4) (.o .cons (.v 5) (.o .cons (.v 7) .nil)))))))) (.u (.wrap .i16) (.u (.wrap .i16) (.o .get (.v 1) (.n 1)))))⟩,
  ⟨[(.x (.o .eq (.o .get (.v 0) (.n 1)) (.n 0))), (.x (.o .eq (.o .get (.v 0) (.n 0)) (.n 0)))], (.q (.u (.fld 2) (.u (.f 4) (.o .cons (.v 0) (.o .cons (.v 1) (.o .cons (.v 3) (.o .cons (.v 4) (.o .cons (.v 5) (.o .cons (.v 7) .nil)))))))) (.u .b2i (.u .not (.o .eq (.o .get (.v 0) (.n 0)) (.n 0)))))⟩,
  ⟨[(.x (.o .eq (.o .get (.v 0) (.n 1)) (.n 0))), (.x (.o .eq (.o .get (.v 0) (.n 0)) (.n 0)))], (.q (.u (.fld 3) (.u (.f 4) (.o .cons (.v 0) (.o .cons (.v 1) (.o .cons (.v 3) (.o .cons (.v 4) (.o .cons (.v 5) (.o .cons (.v 7) .nil)))))))) (.u (.wrap .i32) (.v 4)))⟩,
  ⟨[(.x (.o .eq (.o .get (.v 0) (.n 1)) (.n 0))), (.x (.o .eq (.o .get (.v 0) (.n 0)) (.n 0)))], (.q (.u (.fld 4) (.u (.f 4) (.o .cons (.v 0) (.o .cons (.v 1) (.o .cons (.v 3) (.o .cons (.v 4) (.o .cons (.v 5) (.o .cons (.v 7) .nil)))))))) (.u (.wrap .i32) (.v 5)))⟩]
theorem ctu_ff_run : runOne cS 100 16 (stepK sCTU 4 2 false false) (((stepK sCTU 4 2 false false)).outs.headD (.nilp, ((stepK sCTU 4 2 false false)).h)) = some ctu_ff_ob := by kernel_rfl
theorem ctu_ff_all {I : Interp} (hI : ∀ u, I.f 4 u = fbF 4 u) (w : World) : ∀ o ∈ ctu_ff_ob, o.ok ⟨w, I⟩ := by
  unfold ctu_ff_ob
  simp only [List.forall_mem_cons, List.not_mem_nil, false_implies, implies_true, and_true]
  refine ⟨?_, ?_, ?_, ?_, ?_, ?_, ?_, ?_, ?_, ?_, ?_, ?_, ?_, ?_, ?_, ?_, ?_, ?_, ?_, ?_, ?_, ?_, ?_, ?_, ?_, ?_, ?_, ?_, ?_, ?_⟩
  · intro ρ hf _ hfs
    have hF : ∀ u, ρ.f 4 u = fbF 4 u := fun u => by rw [hf]; exact hI u
    simp only [List.forall_mem_cons, List.not_mem_nil, false_implies, implies_true, and_true, Fact.ok, X.den, den_not, den_b2i, den_wrap, den_get, den_lt, den_le, den_eq, den_min, den_max, den_add, den_sub, den_len, den_cons, den_mset, asB_b, asI_i, asL_l, asS_s, Bool.not_eq_true', ilt_iff, ile_iff, ieq_iff, ilt_f, ile_f, ieq_f, w32_def, w16_def, w64_def] at hfs
    simp only [Fact.ok, X.den, den_not, den_b2i, den_wrap, den_get, den_lt, den_le, den_eq, den_min, den_max, den_add, den_sub, den_len, den_cons, den_mset, den_asm, den_f1, hF, asB_b, asI_i, asL_l, asS_s, asM_m, fbF, arg1, fld_step, List.getD_cons_zero, List.getD_cons_succ, getD_asI, Bool.not_eq_true', ilt_iff, ile_iff, ieq_iff, ilt_f, ile_f, ieq_f, w32_def, w16_def, w64_def, w32_w64]
    clear hF hf
    refine congrArg U.m (funext fun q => ?_)
    simp only [getD_pastI hfs, asI_default, w32_zero, w16_zero, not_true, if_false, k_CU, k_R, k_PV, k_Q, k_CV]
    by_cases hq : q = [67, 85]
    · subst hq; rfl
    · simp only [hq, if_false]
  · intro ρ hf _ hfs
    have hF : ∀ u, ρ.f 4 u = fbF 4 u := fun u => by rw [hf]; exact hI u
    simp only [List.forall_mem_cons, List.not_mem_nil, false_implies, implies_true, and_true, Fact.ok, X.den, den_not, den_b2i, den_wrap, den_get, den_lt, den_le, den_eq, den_min, den_max, den_add, den_sub, den_len, den_cons, den_mset, asB_b, asI_i, asL_l, asS_s, Bool.not_eq_true', ilt_iff, ile_iff, ieq_iff, ilt_f, ile_f, ieq_f, w32_def, w16_def, w64_def] at hfs
    simp only [Fact.ok, X.den, den_not, den_b2i, den_wrap, den_get, den_lt, den_le, den_eq, den_min, den_max, den_add, den_sub, den_len, den_cons, den_mset, den_asm, den_f1, hF, asB_b, asI_i, asL_l, asS_s, asM_m, fbF, arg1, fld_step, List.getD_cons_zero, List.getD_cons_succ, getD_asI, Bool.not_eq_true', ilt_iff, ile_iff, ieq_iff, ilt_f, ile_f, ieq_f, w32_def, w16_def, w64_def, w32_w64]
    clear hF hf
    refine congrArg U.m (funext fun q => ?_)
    simp only [getD_pastI hfs, asI_default, w32_zero, w16_zero, not_true, if_false, k_CU, k_R, k_PV, k_Q, k_CV]
    by_cases hq : q = [82]
    · subst hq; rfl
    · simp only [hq, if_false]
  · intro ρ hf _ hfs
    have hF : ∀ u, ρ.f 4 u = fbF 4 u := fun u => by rw [hf]; exact hI u
    simp only [List.forall_mem_cons, List.not_mem_nil, false_implies, implies_true, and_true, Fact.ok, X.den, den_not, den_b2i, den_wrap, den_get, den_lt, den_le, den_eq, den_min, den_max, den_add, den_sub, den_len, den_cons, den_mset, asB_b, asI_i, asL_l, asS_s, Bool.not_eq_true', ilt_iff, ile_iff, ieq_iff, ilt_f, ile_f, ieq_f, w32_def, w16_def, w64_def] at hfs
    simp only [Fact.ok, X.den, den_not, den_b2i, den_wrap, den_get, den_lt, den_le, den_eq, den_min, den_max, den_add, den_sub, den_len, den_cons, den_mset, den_asm, den_f1, hF, asB_b, asI_i, asL_l, asS_s, asM_m, fbF, arg1, fld_step, List.getD_cons_zero, List.getD_cons_succ, getD_asI, Bool.not_eq_true', ilt_iff, ile_iff, ieq_iff, ilt_f, ile_f, ieq_f, w32_def, w16_def, w64_def, w32_w64]
    clear hF hf
    refine congrArg U.m (funext fun q => ?_)
    simp only [getD_pastI hfs, asI_default, w32_zero, w16_zero, not_true, if_false, k_CU, k_R, k_PV, k_Q, k_CV]
    by_cases hq : q = [80, 86]
    · subst hq; rfl
    · simp only [hq, if_false]
  · intro ρ hf _ hfs
    have hF : ∀ u, ρ.f 4 u = fbF 4 u := fun u => by rw [hf]; exact hI u
    simp only [List.forall_mem_cons, List.not_mem_nil, false_implies, implies_true, and_true, Fact.ok, X.den, den_not, den_b2i, den_wrap, den_get, den_lt, den_le, den_eq, den_min, den_max, den_add, den_sub, den_len, den_cons, den_mset, asB_b, asI_i, asL_l, asS_s, Bool.not_eq_true', ilt_iff, ile_iff, ieq_iff, ilt_f, ile_f, ieq_f, w32_def, w16_def, w64_def] at hfs
    simp only [Fact.ok, X.den, den_not, den_b2i, den_wrap, den_get, den_lt, den_le, den_eq, den_min, den_max, den_add, den_sub, den_len, den_cons, den_mset, den_asm, den_f1, hF, asB_b, asI_i, asL_l, asS_s, asM_m, fbF, arg1, fld_step, List.getD_cons_zero, List.getD_cons_succ, getD_asI, Bool.not_eq_true', ilt_iff, ile_iff, ieq_iff, ilt_f, ile_f, ieq_f, w32_def, w16_def, w64_def, w32_w64]
    clear hF hf
    refine congrArg U.m (funext fun q => ?_)
    simp only [getD_pastI hfs, asI_default, w32_zero, w16_zero, not_true, if_false, k_CU, k_R, k_PV, k_Q, k_CV]
    by_cases hq : q = [81]
    · subst hq; rfl
    · simp only [hq, if_false]
  · intro ρ hf _ hfs
    have hF : ∀ u, ρ.f 4 u = fbF 4 u := fun u => by rw [hf]; exact hI u
    simp only [List.forall_mem_cons, List.not_mem_nil, false_implies, implies_true, and_true, Fact.ok, X.den, den_not, den_b2i, den_wrap, den_get, den_lt, den_le, den_eq, den_min, den_max, den_add, den_sub, den_len, den_cons, den_mset, asB_b, asI_i, asL_l, asS_s, Bool.not_eq_true', ilt_iff, ile_iff, ieq_iff, ilt_f, ile_f, ieq_f, w32_def, w16_def, w64_def] at hfs
    simp only [Fact.ok, X.den, den_not, den_b2i, den_wrap, den_get, den_lt, den_le, den_eq, den_min, den_max, den_add, den_sub, den_len, den_cons, den_mset, den_asm, den_f1, hF, asB_b, asI_i, asL_l, asS_s, asM_m, fbF, arg1, fld_step, List.getD_cons_zero, List.getD_cons_succ, getD_asI, Bool.not_eq_true', ilt_iff, ile_iff, ieq_iff, ilt_f, ile_f, ieq_f, w32_def, w16_def, w64_def, w32_w64]
    clear hF hf
    refine congrArg U.m (funext fun q => ?_)
    simp only [getD_pastI hfs, asI_default, w32_zero, w16_zero, not_true, if_false, k_CU, k_R, k_PV, k_Q, k_CV]
    by_cases hq : q = [67, 86]
    · subst hq; rfl
    · simp only [hq, if_false]
  all_goals
    intro ρ hf _ hfs
    have hF : ∀ u, ρ.f 4 u = fbF 4 u := fun u => by rw [hf]; exact hI u
    simp only [List.forall_mem_cons, List.not_mem_nil, false_implies, implies_true, and_true, Fact.ok, X.den, den_not, den_b2i, den_wrap, den_get, den_lt, den_le, den_eq, den_min, den_max, den_add, den_sub, den_len, den_cons, den_mset, asB_b, asI_i, asL_l, asS_s, Bool.not_eq_true', ilt_iff, ile_iff, ieq_iff, ilt_f, ile_f, ieq_f, w32_def, w16_def, w64_def] at hfs
    simp only [Fact.ok, X.den, den_not, den_b2i, den_wrap, den_get, den_lt, den_le, den_eq, den_min, den_max, den_add, den_sub, den_len, den_cons, den_mset, den_asm, den_f1, hF, asB_b, asI_i, asL_l, asS_s, asM_m, fbF, arg1, fld_step, List.getD_cons_zero, List.getD_cons_succ, getD_asI, Bool.not_eq_true', ilt_iff, ile_iff, ieq_iff, ilt_f, ile_f, ieq_f, w32_def, w16_def, w64_def, w32_w64]
    clear hF hf
    refine congrArg U.i ?_
    try simp only [tn0, tn1, tn2, tn3, tn4, w32_w64, Int.sub_self, w32_zero, max00, min0m] at hfs
    simp only [ctuZ, nz, ne_eq, getD_asI, tn0, tn1, tn2, tn3, tn4, w64_up, w64_dn, w32_max0, w32_et, w16_inc, w16_dec, w16_w16, w32_w32, Int.sub_self, w32_zero, max00, min0m, w32_et0, shown]
    simp [-List.getD_eq_getElem?_getD, List.getD_cons_zero, List.getD_cons_succ, hfs, tr, shown, asI_default, w16_zero, w32_zero, min0m, max00, w32_et, w32_max0, w32_et0]
    try omega
theorem ctu_ff_ok {I : Interp} (hI : ∀ u, I.f 4 u = fbF 4 u) : CtrOk Tryd.prog I 16 (stepK sCTU 4 2 false false) := .one (cS_ok I) (by kernel_rfl) ctu_ff_run List.mem_cons_self (ctu_ff_all hI)
def ctu_ft_ob : List Obl := [⟨[(.x (.u .not (.o .lt (.n 0) (.u .len (.v 0)))))], (.q (.c .mset (.u .asm .nil) (.s [67, 85]) (.u .b2i (.u .not (.o .eq (.o .get (.v 0) (.n 0)) (.n 0))))) (.u .asm .nil))⟩,
  ⟨[(.x (.u .not (.o .lt (.n 1) (.u .len (.v 0)))))], (.q (.c .mset (.c .mset (.u .asm .nil) (.s [67, 85]) (.u .b2i (.u .not (.o .eq (.o .get (.v 0) (.n 0)) (.n 0))))) (.s [82]) (.u .b2i (.u .not (.o .eq (.o .get (.v 0) (.n 1)) (.n 0))))) (.c .mset (.u .asm .nil) (.s [67, 85]) (.u .b2i (.u .not (.o .eq (.o .get (.v 0) (.n 0)) (.n 0))))))⟩,
  ⟨[(.x (.u .not (.o .lt (.n 2) (.u .len (.v 0)))))], (.q (.c .mset (.c .mset (.c .mset (.u .asm .nil) (.s [67, 85]) (.u .b2i (.u .not (.o .eq (.o .get (.v 0) (.n 0)) (.n 0))))) (.s [80, 86]) (.u (.wrap .i16) (.o .get (.v 0) (.n 2)))) (.s [82]) (.u .b2i (.u .not (.o .eq (.o .get (.v 0) (.n 1)) (.n 0))))) (.c .mset (.c .mset (.u .asm .nil) (.s [67, 85]) (.u .b2i (.u .not (.o .eq (.o .get (.v 0) (.n 0)) (.n 0))))) (.s [82]) (.u .b2i (.u .not (.o .eq (.o .get (.v 0) (.n 1)) (.n 0))))))⟩,
  ⟨[(.x (.u .not (.o .eq (.o .get (.v 0) (.n 1)) (.n 0)))), (.x (.u .not (.o .eq (.o .get (.v 0) (.n 0)) (.n 0))))], (.q (.u (.fld 0) (.u (.f 4) (.o .cons (.v 0) (.o .cons .nil (.o .cons (.v 3) (.o .cons (.v 4) (.o .cons (.v 5) (.o .cons (.v 7) .nil)))))))) (.u .b2i (.u .not (.o .eq (.u .b2i (.o .le (.u (.wrap .i16) (.o .get (.v 0) (.n 2))) (.n 0))) (.n 0)))))⟩,
  ⟨[(.x (.u .not (.o .eq (.o .get (.v 0) (.n 1)) (.n 0)))), (.x (.u .not (.o .eq (.o .get (.v 0) (.n 0)) (.n 0))))], (.q (.u (.fld 1) (.u (.f 4) (.o .cons (.v 0) (.o .cons .nil (.o .cons (.v 3) (.o .cons (.v 4) (.o .cons (.v 5) (.o .cons (.v 7) .nil)))))))) (.n 0))⟩,
  ⟨[(.x (.u .not (.o .eq (.o .get (.v 0) (.n 1)) (.n 0)))), (.x (.u .not (.o .eq (.o .get (.v 0) (.n 0)) (.n 0))))], (.q (.u (.fld 2) (.u (.f 4) (.o .cons (.v 0) (.o .cons .nil (.o .cons (.v 3) (.o .cons (.v 4) (.o .cons (.v 5) (.o .cons (.v 7) .nil)))))))) (.u .b2i (.u .not (.o .eq (.o .get (.v 0) (.n 0)) (.n 0)))))⟩,
  ⟨[(.x (.u .not (.o .eq (.o .get (.v 0) (.n 1)) (.n 0)))), (.x (.u .not (.o .eq (.o .get (.v 0) (.n 0)) (.n 0))))], (.q (.u (.fld 3) (.u (.f 4) (.o .cons (.v 0) (.o .cons .nil (.o .cons (.v 3) (.o .cons (.v 4) (.o .cons (.v 5) (.o .cons (.v 7) .nil)))))))) (.u (.wrap .i32) (.v 4)))⟩,
  ⟨[(.x (.u .not (.o .eq (.o .get (.v 0) (.n 1)) (.n 0)))), (.x (.u .not (.o .eq (.o .get (.v 0) (.n 0)) (.n 0))))], (.q (.u (.fld 4) (.u (.f 4) (.o .cons (.v 0) (.o .cons .nil (.o .cons (.v 3) (.o .cons (.v 4) (.o .cons (.v 5) (.o .cons (.v 7) .nil)))))))) (.u (.wrap .i32) (.v 5)))⟩,
  ⟨[(.x (.o .eq (.u (.wrap .i32) (.v 3)) (.n 0))), (.x (.o .eq (.o .get (.v 0) (.n 1)) (.n 0))), (.x (.u .not (.o .eq (.o .get (.v 0) (.n 0)) (.n 0))))], (.q (.u (.fld 0) (.u (.f 4) (.o .cons (.v 0) (.o .cons .nil (.o .cons (.v 3) (.o .cons (.v 4) (.o .cons (.v 5) (.o .cons (.v 7) .nil)))))))) (.u .b2i (.u .not (.o .eq (.u .b2i (.o .le (.u (.wrap .i16) (.o .get (.v 0) (.n 2))) (.n 1))) (.n 0)))))⟩,
  ⟨[(.x (.o .eq (.u (.wrap .i32) (.v 3)) (.n 0))), (.x (.o .eq (.o .get (.v 0) (.n 1)) (.n 0))), (.x (.u .not (.o .eq (.o .get (.v 0) (.n 0)) (.n 0))))], (.q (.u (.fld 1) (.u (.f 4) (.o .cons (.v 0) (.o .cons .nil (.o .cons (.v 3) (.o .cons (.v 4) (.o .cons (.v 5) (.o .cons (.v 7) .nil)))))))) (.n 1))⟩,
  ⟨[(.x (.o .eq (.u (.wrap .i32) (.v 3)) (.n 0))), (.x (.o .eq (.o .get (.v 0) (.n 1)) (.n 0))), (.x (.u .not (.o .eq (.o .get (.v 0) (.n 0)) (.n 0))))], (.q (.u (.fld 2) (.u (.f 4) (.o .cons (.v 0) (.o .cons .nil (.o .cons (.v 3) (.o .cons (.v 4) (.o .cons (.v 5) (.o .cons (.v 7) .nil)))))))) (.u .b2i (.u .not (.o .eq (.o .get (.v 0) (.n 0)) (.n 0)))))⟩,
  ⟨[(.x (.o .eq (.u (.wrap .i32) (.v 3)) (.n 0))), (.x (.o .eq (.o .get (.v 0) (.n 1)) (.n 0))), (.x (.u .not (.o .eq (.o .get (.v 0) (.n 0)) (.n 0))))], (.q (.u (.fld 3) (.u (.f 4) (.o .cons (.v 0) (.o .cons .nil (.o .cons (.v 3) (.o .cons (.v 4) (.o .cons (.v 5) (.o .cons (.v 7) .nil)))))))) (.u (.wrap .i32) (.v 4)))⟩,
  ⟨[(.x (.o .eq (.u (.wrap .i32) (.v 3)) (.n 0))), (.x (.o .eq (.o .get (.v 0) (.n 1)) (.n 0))), (.x (.u .not (.o .eq (.o .get (.v 0) (.n 0)) (.n 0))))], (.q (.u (.fld 4) (.u (.f 4) (.o .cons (.v 0) (.o .cons .nil (.o .cons (.v 3) (.o .cons (.v 4) (.o .cons (.v 5) (.o .cons (.v 7) .nil)))))))) (.u (.wrap .i32) (.v 5)))⟩,
  ⟨[(.x (.u .not (.o .eq (.u (.wrap .i32) (.v 3)) (.n 0)))), (.x (.o .eq (.o .get (.v 0) (.n 1)) (.n 0))), (.x (.u .not (.o .eq (.o .get (.v 0) (.n 0)) (.n 0))))], (.q (.u (.fld 0) (.u (.f 4) (.o .cons (.v 0) (.o .cons .nil (.o .cons (.v 3) (.o .cons (.v 4) (.o .cons (.v 5) (.o .cons (.v 7) .nil)))))))) (.u .b2i (.u .not (.o .eq (.u .b2i (.o .le (.u (.wrap .i16) (.o .get (.v 0) (.n 2))) (.n 0))) (.n 0)))))⟩,
  ⟨[(.x (.u .not (.o .eq (.u (.wrap .i32) (.v 3)) (.n 0)))), (.x (.o .eq (.o .get (.v 0) (.n 1)) (.n 0))), (.x (.u .not (.o .eq (.o .get (.v 0) (.n 0)) (.n 0))))], (.q (.u (.fld 1) (.u (.f 4) (.o .cons (.v 0) (.o .cons .nil (.o .cons (.v 3) (.o .cons (.v 4) (.o .cons (.v 5) (.o .cons (.v 7) .nil)))))))) (.n 0))⟩,
  ⟨[(.x (.u .not (.o .eq (.u (.wrap .i32) (.v 3)) (.n 0)))), (.x (.o .eq (.o .get (.v 0) (.n 1)) (.n 0))), (.x (.u .not (.o .eq (.o .get (.v 0) (.n 0)) (.n 0))))], (.q (.u (.fld 2) (.u (.f 4) (.o .cons (.v 0) (.o .cons .nil (.o .cons (.v 3) (.o .cons (.v 4) (.o .cons (.v 5) (.o .cons (.v 7) .nil)))))))) (.u .b2i (.u .not (.o .eq (.o .get (.v 0) (.n 0)) (.n 0)))))⟩,
  ⟨[(.x (.u .not (.o .eq (.u (.wrap .i32) (.v 3)) (.n 0)))), (.x (.o .eq (.o .get (.v 0) (.n 1)) (.n 0))), (.x (.u .not (.o .eq (.o .get (.v 0) (.n 0)) (.n 0))))], (.q (.u (.fld 3) (.u (.f 4) (.o .cons (.v 0) (.o .cons .nil (.o .cons (.v 3) (.o .cons (.v 4) (.o .cons (.v 5) (.o .cons (.v 7) .nil)))))))) (.u (.wrap .i32) (.v 4)))⟩,
  ⟨[(.x (.u .not (.o .eq (.u (.wrap .i32) (.v 3)) (.n 0)))), (.x (.o .eq (.o .get (.v 0) (.n 1)) (.n 0))), (.x (.u .not (.o .eq (.o .get (.v 0) (.n 0)) (.n 0))))], (.q (.u (.fld 4) (.u (.f 4) (.o .cons (.v 0) (.o .cons .nil (.o .cons (.v 3) (.o .cons (.v 4) (.o .cons (.v 5) (.o .cons (.v 7) .nil)))))))) (.u (.wrap .i32) (.v 5)))⟩,
  ⟨[(.x (.u .not (.o .eq (.o .get (.v 0) (.n 1)) (.n 0)))), (.x (.o .eq (.o .get (.v 0) (.n 0)) (.n 0)))], (.q (.u (.fld 0) (.u (.f 4) (.o .cons (.v 0) (.o .cons .nil (.o .cons (.v 3) (.o .cons (.v 4) (.o .cons (.v 5) (.o .cons (.v 7) .nil)))))))) (.u .b2i (.u .not (.o .eq (.u .b2i (.o .le (.u (.wrap .i16) (.o .get (.v 0) (.n 2))) (.n 0))) (.n 0)))))⟩,
  ⟨[(.x (.u .not (.o .eq (.o .get (.v 0) (.n 1)) (.n 0)))), (.x (.o .eq (.o .get (.v 0) (.n 0)) (.n 0)))], (.q (.u (.fld 1) (.u (.f 4) (.o .cons (.v 0) (.o .cons .nil (.o .cons (.v 3) (.o .cons (.v 4) (.o .cons (.v 5) (.o .cons (.v 7) .nil)))))))) (.n 0))⟩,
  ⟨[(.x (.u .not (.o .eq (.o .get (.v 0) (.n 1)) (.n 0)))), (.x (.o .eq (.o .get (.v 0) (.n 0)) (.n 0)))], (.q (.u (.fld 2) (.u (.f 4) (.o .cons (.v 0) (.o .cons .nil (.o .cons (.v 3) (.o .cons (.v 4) (.o .cons (.v 5) (.o .cons (.v 7) .nil)))))))) (.u .b2i (.u .not (.o .eq (.o .get (.v 0) (.n 0)) (.n 0)))))⟩,
  ⟨[(.x (.u .not (.o .eq (.o .get (.v 0) (.n 1)) (.n 0)))), (.x (.o .eq (.o .get (.v 0) (.n 0)) (.n 0)))], (.q (.u (.fld 3) (.u (.f 4) (.o .cons (.v 0) (.o .cons .nil (.o .cons (.v 3) (.o .cons (.v 4) (.o .cons (.v 5) (.o .cons (.v 7) .nil)))))))) (.u (.wrap .i32) (.v 4)))⟩,
  ⟨[(.x (.u .not (.o .eq (.o .get (.v 0) (.n 1)) (.n 0)))), (.x (.o .eq (.o .get (.v 0) (.n 0)) (.n 0)))], (.q (.u (.fld 4) (.u (.f 4) (.o .cons (.v 0) (.o .cons .nil (.o .cons (.v 3) (.o .cons (.v 4) (.o .cons (.v 5) (.o .cons (.v 7) .nil)))))))) (.u (.wrap .i32) (.v 5)))⟩,
  ⟨[(.x (.o .eq (.o .get (.v 0) (.n 1)) (.n 0))), (.x (.o .eq (.o .get (.v 0) (.n 0)) (.n 0)))], (.q (.u (.fld 0) (.u (.f 4) (.o .cons (.v 0) (.o .cons .nil (.o .cons (.v 3) (.o .cons (.v 4) (.o .cons (.v 5) (.o .cons (.v 7) .nil)))))))) (.u .b2i (.u .not (.o .eq (.u .b2i (.o .le (.u (.wrap .i16) (.o .get (.v 0) (.n 2))) (.n 0))) (.n 0)))))⟩,
  ⟨[(.x (.o .eq (.o .get (.v 0) (.n 1)) (.n 0))), (.x (.o .eq (.o .get (.v 0) (.n 0)) (.n 0)))], (.q (.u (.fld 1) (.u (.f 4) (.o .cons (.v 0) (.o .cons .nil (.o .cons (.v 3) (.o .cons (.v 4) (.o .cons (.v 5) (.o .cons (.v 7) .nil)))))))) (.n 0))⟩,
  ⟨[(.x (.o .eq (.o .get (.v 0) (.n 1)) (.n 0))), (.x (.o .eq (.o .get (.v 0) (.n 0)) (.n 0)))], (.q (.u (.fld 2) (.u (.f 4) (.o .cons (.v 0) (.o .cons .nil (.o .cons (.v 3) (.o .cons (.v 4) (.o .cons (.v 5) (.o .cons (.v 7) .nil)))))))) (.u .b2i (.u .not (.o .eq (.o .get (.v 0) (.n 0)) (.n 0)))))⟩,
  ⟨[(.x (.o .eq (.o .get (.v 0) (.n 1)) (.n 0))), (.x (.o .eq (.o .get (.v 0) (.n 0)) (.n 0)))], (.q (.u (.fld 3) (.u (.f 4) (.o .cons (.v 0) (.o .cons .nil (.o .cons (.v 3) (.o .cons (.v 4) (.o .cons (.v 5) (.o .cons (.v 7) .nil)))))))) (.u (.wrap .i32) (.v 4)))⟩,
  ⟨[(.x (.o .eq (.o .get (.v 0) (.n 1)) (.n 0))), (.x (.o .eq (.o .get (.v 0) (.n 0)) (.n 0)))], (.q (.u (.fld 4) (.u (.f 4) (.o .cons (.v 0) (.o .cons .nil (.o .cons (.v 3) (.o .cons (.v 4) (.o .cons (.v 5) (.o .cons (.v 7) .nil)))))))) (.u (.wrap .i32) (.v 5)))⟩]
theorem ctu_ft_run : runOne cS 100 16 (stepK sCTU 4 2 false true) (((stepK sCTU 4 2 false true)).outs.headD (.nilp, ((stepK sCTU 4 2 false true)).h)) = some ctu_ft_ob := by kernel_rfl
theorem ctu_ft_all {I : Interp} (hI : ∀ u, I.f 4 u = fbF 4 u) (w : World) : ∀ o ∈ ctu_ft_ob, o.ok ⟨w, I⟩ := by
  unfold ctu_ft_ob
  simp only [List.forall_mem_cons, List.not_mem_nil, false_implies, implies_true, and_true]
  refine ⟨?_, ?_, ?_, ?_, ?_, ?_, ?_, ?_, ?_, ?_, ?_, ?_, ?_, ?_, ?_, ?_, ?_, ?_, ?_, ?_, ?_, ?_, ?_, ?_, ?_, ?_, ?_, ?_⟩
  · intro ρ hf _ hfs
    have hF : ∀ u, ρ.f 4 u = fbF 4 u := fun u => by rw [hf]; exact hI u
    simp only [List.forall_mem_cons, List.not_mem_nil, false_implies, implies_true, and_true, Fact.ok, X.den, den_not, den_b2i, den_wrap, den_get, den_lt, den_le, den_eq, den_min, den_max, den_add, den_sub, den_len, den_cons, den_mset, asB_b, asI_i, asL_l, asS_s, Bool.not_eq_true', ilt_iff, ile_iff, ieq_iff, ilt_f, ile_f, ieq_f, w32_def, w16_def, w64_def] at hfs
    simp only [Fact.ok, X.den, den_not, den_b2i, den_wrap, den_get, den_lt, den_le, den_eq, den_min, den_max, den_add, den_sub, den_len, den_cons, den_mset, den_asm, den_f1, hF, asB_b, asI_i, asL_l, asS_s, asM_m, fbF, arg1, fld_step, List.getD_cons_zero, List.getD_cons_succ, getD_asI, Bool.not_eq_true', ilt_iff, ile_iff, ieq_iff, ilt_f, ile_f, ieq_f, w32_def, w16_def, w64_def, w32_w64]
    clear hF hf
    refine congrArg U.m (funext fun q => ?_)
    simp only [getD_pastI hfs, asI_default, w32_zero, w16_zero, not_true, if_false, k_CU, k_R, k_PV, k_Q, k_CV]
    by_cases hq : q = [67, 85]
    · subst hq; rfl
    · simp only [hq, if_false]
  · intro ρ hf _ hfs
    have hF : ∀ u, ρ.f 4 u = fbF 4 u := fun u => by rw [hf]; exact hI u
    simp only [List.forall_mem_cons, List.not_mem_nil, false_implies, implies_true, and_true, Fact.ok, X.den, den_not, den_b2i, den_wrap, den_get, den_lt, den_le, den_eq, den_min, den_max, den_add, den_sub, den_len, den_cons, den_mset, asB_b, asI_i, asL_l, asS_s, Bool.not_eq_true', ilt_iff, ile_iff, ieq_iff, ilt_f, ile_f, ieq_f, w32_def, w16_def, w64_def] at hfs
    simp only [Fact.ok, X.den, den_not, den_b2i, den_wrap, den_get, den_lt, den_le, den_eq, den_min, den_max, den_add, den_sub, den_len, den_cons, den_mset, den_asm, den_f1, hF, asB_b, asI_i, asL_l, asS_s, asM_m, fbF, arg1, fld_step, List.getD_cons_zero, List.getD_cons_succ, getD_asI, Bool.not_eq_true', ilt_iff, ile_iff, ieq_iff, ilt_f, ile_f, ieq_f, w32_def, w16_def, w64_def, w32_w64]
    clear hF hf
    refine congrArg U.m (funext fun q => ?_)
    simp only [getD_pastI hfs, asI_default, w32_zero, w16_zero, not_true, if_false, k_CU, k_R, k_PV, k_Q, k_CV]
    by_cases hq : q = [82]
    · subst hq; rfl
    · simp only [hq, if_false]
  · intro ρ hf _ hfs
    have hF : ∀ u, ρ.f 4 u = fbF 4 u := fun u => by rw [hf]; exact hI u
    simp only [List.forall_mem_cons, List.not_mem_nil, false_implies, implies_true, and_true, Fact.ok, X.den, den_not, den_b2i, den_wrap, den_get, den_lt, den_le, den_eq, den_min, den_max, den_add, den_sub, den_len, den_cons, den_mset, asB_b, asI_i, asL_l, asS_s, Bool.not_eq_true', ilt_iff, ile_iff, ieq_iff, ilt_f, ile_f, ieq_f, w32_def, w16_def, w64_def] at hfs
    simp only [Fact.ok, X.den, den_not, den_b2i, den_wrap, den_get, den_lt, den_le, den_eq, den_min, den_max, den_add, den_sub, den_len, den_cons, den_mset, den_asm, den_f1, hF, asB_b, asI_i, asL_l, asS_s, asM_m, fbF, arg1, fld_step, List.getD_cons_zero, List.getD_cons_succ, getD_asI, Bool.not_eq_true', ilt_iff, ile_iff, ieq_iff, ilt_f, ile_f, ieq_f, w32_def, w16_def, w64_def, w32_w64]
    clear hF hf
    refine congrArg U.m (funext fun q => ?_)
    simp only [getD_pastI hfs, asI_default, w32_zero, w16_zero, not_true, if_false, k_CU, k_R, k_PV, k_Q, k_CV]
    by_cases hq : q = [80, 86]
    · subst hq; rfl
    · simp only [hq, if_false]
  all_goals
    intro ρ hf _ hfs
    have hF : ∀ u, ρ.f 4 u = fbF 4 u := fun u => by rw [hf]; exact hI u
    simp only [List.forall_mem_cons, List.not_mem_nil, false_implies, implies_true, and_true, Fact.ok, X.den, den_not, den_b2i, den_wrap, den_get, den_lt, den_le, den_eq, den_min, den_max, den_add, den_sub, den_len, den_cons, den_mset, asB_b, asI_i, asL_l, asS_s, Bool.not_eq_true', ilt_iff, ile_iff, ieq_iff, ilt_f, ile_f, ieq_f, w32_def, w16_def, w64_def] at hfs
    simp only [Fact.ok, X.den, den_not, den_b2i, den_wrap, den_get, den_lt, den_le, den_eq, den_min, den_max, den_add, den_sub, den_len, den_cons, den_mset, den_asm, den_f1, hF, asB_b, asI_i, asL_l, asS_s, asM_m, fbF, arg1, fld_step, List.getD_cons_zero, List.getD_cons_succ, getD_asI, Bool.not_eq_true', ilt_iff, ile_iff, ieq_iff, ilt_f, ile_f, ieq_f, w32_def, w16_def, w64_def, w32_w64]
    clear hF hf
    refine congrArg U.i ?_
    try simp only [tn0, tn1, tn2, tn3, tn4, w32_w64, Int.sub_self, w32_zero, max00, min0m] at hfs
    simp only [ctuZ, nz, ne_eq, getD_asI, tn0, tn1, tn2, tn3, tn4, w64_up, w64_dn, w32_max0, w32_et, w16_inc, w16_dec, w16_w16, w32_w32, Int.sub_self, w32_zero, max00, min0m, w32_et0, shown]
    simp [-List.getD_eq_getElem?_getD, List.getD_cons_zero, List.getD_cons_succ, hfs, tr, shown, asI_default, w16_zero, w32_zero, min0m, max00, w32_et, w32_max0, w32_et0]
    try omega
theorem ctu_ft_ok {I : Interp} (hI : ∀ u, I.f 4 u = fbF 4 u) : CtrOk Tryd.prog I 16 (stepK sCTU 4 2 false true) := .one (cS_ok I) (by kernel_rfl) ctu_ft_run List.mem_cons_self (ctu_ft_all hI)
def ctu_tf_ob : List Obl := [⟨[(.x (.u .not (.o .lt (.n 0) (.u .len (.v 1)))))], (.q (.c .mset (.u .asm .nil) (.s [81]) (.u .b2i (.u .not (.o .eq (.o .get (.v 1) (.n 0)) (.n 0))))) (.u .asm .nil))⟩,
  ⟨[(.x (.u .not (.o .lt (.n 1) (.u .len (.v 1)))))], (.q (.c .mset (.c .mset (.u .asm .nil) (.s [67, 86]) (.u (.wrap .i16) (.o .get (.v 1) (.n 1)))) (.s [81]) (.u .b2i (.u .not (.o .eq (.o .get (.v 1) (.n 0)) (.n 0))))) (.c .mset (.u .asm .nil) (.s [81]) (.u .b2i (.u .not (.o .eq (.o .get (.v 1) (.n 0)) (.n 0))))))⟩,
  ⟨[], (.q (.u (.fld 0) (.u (.f 4) (.o .cons .nil (.o .cons (.v 1) (.o .cons (.v 3) (.o .cons (.v 4) (.o .cons (.v 5) (.o .cons (.v 7) .nil)))))))) (.u .b2i (.u .not (.o .eq (.u .b2i (.o .le (.n 0) (.u (.wrap .i16) (.o .get (.v 1) (.n 1))))) (.n 0)))))⟩,
  ⟨[], (.q (.u (.fld 1) (.u (.f 4) (.o .cons .nil (.o .cons (.v 1) (.o .cons (.v 3) (.o .cons (.v 4) (.o .cons (.v 5) (.o .cons (.v 7) .nil)))))))) (.u (.wrap .i16) (.u (.wrap .i16) (.o .get (.v 1) (.n 1)))))⟩,
  ⟨[], (.q (.u (.fld 2) (.u (.f 4) (.o .cons .nil (.o .cons (.v 1) (.o .cons (.v 3) (.o .cons (.v 4) (.o .cons (.v 5) (.o .cons (.v 7) .nil)))))))) (.n 0))⟩,
  ⟨[], (.q (.u (.fld 3) (.u (.f 4) (.o .cons .nil (.o .cons (.v 1) (.o .cons (.v 3) (.o .cons (.v 4) (.o .cons (.v 5) (.o .cons (.v 7) .nil)))))))) (.u (.wrap .i32) (.v 4)))⟩,
  ⟨[], (.q (.u (.fld 4) (.u (.f 4) (.o .cons .nil (.o .cons (.v 1) (.o .cons (.v 3) (.o .cons (.v 4) (.o .cons (.v 5) (.o .cons (.v 7) .nil)))))))) (.u (.wrap .i32) (.v 5)))⟩]
theorem ctu_tf_run : runOne cS 100 16 (stepK sCTU 4 2 true false) (((stepK sCTU 4 2 true false)).outs.headD (.nilp, ((stepK sCTU 4 2 true false)).h)) = some ctu_tf_ob := by kernel_rfl
theorem ctu_tf_all {I : Interp} (hI : ∀ u, I.f 4 u = fbF 4 u) (w : World) : ∀ o ∈ ctu_tf_ob, o.ok ⟨w, I⟩ := by
  unfold ctu_tf_ob
  simp only [List.forall_mem_cons, List.not_mem_nil, false_implies, implies_true, and_true]
  refine ⟨?_, ?_, ?_, ?_, ?_, ?_, ?_⟩
  · intro ρ hf _ hfs
    have hF : ∀ u, ρ.f 4 u = fbF 4 u := fun u => by rw [hf]; exact hI u
    simp only [List.forall_mem_cons, List.not_mem_nil, false_implies, implies_true, and_true, Fact.ok, X.den, den_not, den_b2i, den_wrap, den_get, den_lt, den_le, den_eq, den_min, den_max, den_add, den_sub, den_len, den_cons, den_mset, asB_b, asI_i, asL_l, asS_s, Bool.not_eq_true', ilt_iff, ile_iff, ieq_iff, ilt_f, ile_f, ieq_f, w32_def, w16_def, w64_def] at hfs
    simp only [Fact.ok, X.den, den_not, den_b2i, den_wrap, den_get, den_lt, den_le, den_eq, den_min, den_max, den_add, den_sub, den_len, den_cons, den_mset, den_asm, den_f1, hF, asB_b, asI_i, asL_l, asS_s, asM_m, fbF, arg1, fld_step, List.getD_cons_zero, List.getD_cons_succ, getD_asI, Bool.not_eq_true', ilt_iff, ile_iff, ieq_iff, ilt_f, ile_f, ieq_f, w32_def, w16_def, w64_def, w32_w64]
    clear hF hf
    refine congrArg U.m (funext fun q => ?_)
    simp only [getD_pastI hfs, asI_default, w32_zero, w16_zero, not_true, if_false, k_CU, k_R, k_PV, k_Q, k_CV]
    by_cases hq : q = [81]
    · subst hq; rfl
    · simp only [hq, if_false]
  · intro ρ hf _ hfs
    have hF : ∀ u, ρ.f 4 u = fbF 4 u := fun u => by rw [hf]; exact hI u
    simp only [List.forall_mem_cons, List.not_mem_nil, false_implies, implies_true, and_true, Fact.ok, X.den, den_not, den_b2i, den_wrap, den_get, den_lt, den_le, den_eq, den_min, den_max, den_add, den_sub, den_len, den_cons, den_mset, asB_b, asI_i, asL_l, asS_s, Bool.not_eq_true', ilt_iff, ile_iff, ieq_iff, ilt_f, ile_f, ieq_f, w32_def, w16_def, w64_def] at hfs
    simp only [Fact.ok, X.den, den_not, den_b2i, den_wrap, den_get, den_lt, den_le, den_eq, den_min, den_max, den_add, den_sub, den_len, den_cons, den_mset, den_asm, den_f1, hF, asB_b, asI_i, asL_l, asS_s, asM_m, fbF, arg1, fld_step, List.getD_cons_zero, List.getD_cons_succ, getD_asI, Bool.not_eq_true', ilt_iff, ile_iff, ieq_iff, ilt_f, ile_f, ieq_f, w32_def, w16_def, w64_def, w32_w64]
    clear hF hf
    refine congrArg U.m (funext fun q => ?_)
    simp only [getD_pastI hfs, asI_default, w32_zero, w16_zero, not_true, if_false, k_CU, k_R, k_PV, k_Q, k_CV]
    by_cases hq : q = [67, 86]
    · subst hq; rfl
    · simp only [hq, if_false]
  all_goals
    intro ρ hf _ hfs
    have hF : ∀ u, ρ.f 4 u = fbF 4 u := fun u => by rw [hf]; exact hI u
    simp only [List.forall_mem_cons, List.not_mem_nil, false_implies, implies_true, and_true, Fact.ok, X.den, den_not, den_b2i, den_wrap, den_get, den_lt, den_le, den_eq, den_min, den_max, den_add, den_sub, den_len, den_cons, den_mset, asB_b, asI_i, asL_l, asS_s, Bool.not_eq_true', ilt_iff, ile_iff, ieq_iff, ilt_f, ile_f, ieq_f, w32_def, w16_def, w64_def] at hfs
    simp only [Fact.ok, X.den, den_not, den_b2i, den_wrap, den_get, den_lt, den_le, den_eq, den_min, den_max, den_add, den_sub, den_len, den_cons, den_mset, den_asm, den_f1, hF, asB_b, asI_i, asL_l, asS_s, asM_m, fbF, arg1, fld_step, List.getD_cons_zero, List.getD_cons_succ, getD_asI, Bool.not_eq_true', ilt_iff, ile_iff, ieq_iff, ilt_f, ile_f, ieq_f, w32_def, w16_def, w64_def, w32_w64]
    clear hF hf
    refine congrArg U.i ?_
    try simp only [tn0, tn1, tn2, tn3, tn4, w32_w64, Int.sub_self, w32_zero, max00, min0m] at hfs
    simp only [ctuZ, nz, ne_eq, getD_asI, tn0, tn1, tn2, tn3, tn4, w64_up, w64_dn, w32_max0, w32_et, w16_inc, w16_dec, w16_w16, w32_w32, Int.sub_self, w32_zero, max00, min0m, w32_et0, shown]
    simp [-List.getD_eq_getElem?_getD, List.getD_cons_zero, List.getD_cons_succ, hfs, tr, shown, asI_default, w16_zero, w32_zero, min0m, max00, w32_et, w32_max0, w32_et0]
    try omega
theorem ctu_tf_ok {I : Interp} (hI : ∀ u, I.f 4 u = fbF 4 u) : CtrOk Tryd.prog I 16 (stepK sCTU 4 2 true false) := .one (cS_ok I) (by kernel_rfl) ctu_tf_run List.mem_cons_self (ctu_tf_all hI)
def ctu_tt_ob : List Obl := [⟨[], (.q (.u (.fld 0) (.u (.f 4) (.o .cons .nil (.o .cons .nil (.o .cons (.v 3) (.o .cons (.v 4) (.o .cons (.v 5) (.o .cons (.v 7) .nil)))))))) (.n 1))⟩,
  ⟨[], (.q (.u (.fld 1) (.u (.f 4) (.o .cons .nil (.o .cons .nil (.o .cons (.v 3) (.o .cons (.v 4) (.o .cons (.v 5) (.o .cons (.v 7) .nil)))))))) (.n 0))⟩,
  ⟨[], (.q (.u (.fld 2) (.u (.f 4) (.o .cons .nil (.o .cons .nil (.o .cons (.v 3) (.o .cons (.v 4) (.o .cons (.v 5) (.o .cons (.v 7) .nil)))))))) (.n 0))⟩,
  ⟨[], (.q (.u (.fld 3) (.u (.f 4) (.o .cons .nil (.o .cons .nil (.o .cons (.v 3) (.o .cons (.v 4) (.o .cons (.v 5) (.o .cons (.v 7) .nil)))))))) (.u (.wrap .i32) (.v 4)))⟩,
  ⟨[], (.q (.u (.fld 4) (.u (.f 4) (.o .cons .nil (.o .cons .nil (.o .cons (.v 3) (.o .cons (.v 4) (.o .cons (.v 5) (.o .cons (.v 7) .nil)))))))) (.u (.wrap .i32) (.v 5)))⟩]
theorem ctu_tt_run : runOne cS 100 16 (stepK sCTU 4 2 true true) (((stepK sCTU 4 2 true true)).outs.headD (.nilp, ((stepK sCTU 4 2 true true)).h)) = some ctu_tt_ob := by kernel_rfl
theorem ctu_tt_all {I : Interp} (hI : ∀ u, I.f 4 u = fbF 4 u) (w : World) : ∀ o ∈ ctu_tt_ob, o.ok ⟨w, I⟩ := by
  unfold ctu_tt_ob
  simp only [List.forall_mem_cons, List.not_mem_nil, false_implies, implies_true, and_true]
  refine ⟨?_, ?_, ?_, ?_, ?_⟩
  all_goals
    intro ρ hf _ hfs
    have hF : ∀ u, ρ.f 4 u = fbF 4 u := fun u => by rw [hf]; exact hI u
    simp only [List.forall_mem_cons, List.not_mem_nil, false_implies, implies_true, and_true, Fact.ok, X.den, den_not, den_b2i, den_wrap, den_get, den_lt, den_le, den_eq, den_min, den_max, den_add, den_sub, den_len, den_cons, den_mset, asB_b, asI_i, asL_l, asS_s, Bool.not_eq_true', ilt_iff, ile_iff, ieq_iff, ilt_f, ile_f, ieq_f, w32_def, w16_def, w64_def] at hfs
    simp only [Fact.ok, X.den, den_not, den_b2i, den_wrap, den_get, den_lt, den_le, den_eq, den_min, den_max, den_add, den_sub, den_len, den_cons, den_mset, den_asm, den_f1, hF, asB_b, asI_i, asL_l, asS_s, asM_m, fbF, arg1, fld_step, List.getD_cons_zero, List.getD_cons_succ, getD_asI, Bool.not_eq_true', ilt_iff, ile_iff, ieq_iff, ilt_f, ile_f, ieq_f, w32_def, w16_def, w64_def, w32_w64]
    clear hF hf
    refine congrArg U.i ?_
    try simp only [tn0, tn1, tn2, tn3, tn4, w32_w64, Int.sub_self, w32_zero, max00, min0m] at hfs
    simp only [ctuZ, nz, ne_eq, getD_asI, tn0, tn1, tn2, tn3, tn4, w64_up, w64_dn, w32_max0, w32_et, w16_inc, w16_dec, w16_w16, w32_w32, Int.sub_self, w32_zero, max00, min0m, w32_et0, shown]
    simp [-List.getD_eq_getElem?_getD, List.getD_cons_zero, List.getD_cons_succ, hfs, tr, shown, asI_default, w16_zero, w32_zero, min0m, max00, w32_et, w32_max0, w32_et0]
    try omega
theorem ctu_tt_ok {I : Interp} (hI : ∀ u, I.f 4 u = fbF 4 u) : CtrOk Tryd.prog I 16 (stepK sCTU 4 2 true true) := .one (cS_ok I) (by kernel_rfl) ctu_tt_run List.mem_cons_self (ctu_tt_all hI)
end Go.Proofs.YtkphkjffcpkhjaaDoor
end
