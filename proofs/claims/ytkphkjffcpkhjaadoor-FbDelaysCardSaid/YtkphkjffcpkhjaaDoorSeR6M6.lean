import Derived.Test.YtkphkjffcpkhjaaDoorSeR6M5
/-! FbDelays: the loop over the steps. -/
noncomputable section
set_option linter.unusedSimpArgs false
set_option linter.unusedVariables false
namespace Go.Proofs.YtkphkjffcpkhjaaDoor
open Go Go.SE
set_option maxRecDepth 1000000
theorem dl24 {ρ : Env} (hp : ρ.p = pD) (h : dq24.ok ρ) : DelPred (ρ.v 22) (ρ.v 23) (ρ.v 24) (ρ.v 25) (ρ.v 26) (ρ.v 7) (ρ.v 27) (ρ.v 21) (ρ.v 17) (ρ.v 18) (ρ.v 19) (ρ.v 20) := by
  rw [dq24, Fact.ok, hp] at h
  exact h
theorem dllt {ρ : Env} (h : dq26.ok ρ) : (ρ.v 21).asI < (ρ.v 7).asI := by
  simp only [dq26, Fact.ok, X.den, den_lt, asB_b, ilt_iff] at h
  exact h
theorem dl_34 (w : World) : (⟨[dq24, dq25], (.x (.o .le (.n 0) (.v 7)))⟩ : Obl).ok ⟨w, IDl⟩ := by
  intro ρ hf hp hfs
  have h := (dl24 hp (hfs dq24 (by simp))).nn.1
  simp only [Fact.ok, X.den, den_le, asB_b, asI_i, ile_iff]
  exact h
theorem bd_0 {l : List Fact} (h1 : dq24 ∈ l) (h2 : dq26 ∈ l) (w : World) : (⟨l, (.x (.o .le (.n 0) (.v 21)))⟩ : Obl).ok ⟨w, IDl⟩ := by
  intro ρ hf hp hfs
  have h24 := dl24 hp (hfs _ h1)
  have hlt := dllt (hfs _ h2)
  obtain ⟨l1, l2, l3, l4, l5, k1, k2, k3, k4, hz⟩ := del_round h24 hlt
  clear hz
  have ii := h24.ii
  have nn := h24.nn
  clear h24
  simp only [Fact.ok, X.den, den_le, den_lt, den_len, den_get, asB_b, asI_i, ile_iff, ilt_iff, Int.toNat_zero]
  omega
theorem bd_1 {l : List Fact} (h1 : dq24 ∈ l) (h2 : dq26 ∈ l) (w : World) : (⟨l, (.x (.o .lt (.v 21) (.u .len (.v 22))))⟩ : Obl).ok ⟨w, IDl⟩ := by
  intro ρ hf hp hfs
  have h24 := dl24 hp (hfs _ h1)
  have hlt := dllt (hfs _ h2)
  obtain ⟨l1, l2, l3, l4, l5, k1, k2, k3, k4, hz⟩ := del_round h24 hlt
  clear hz
  have ii := h24.ii
  have nn := h24.nn
  clear h24
  simp only [Fact.ok, X.den, den_le, den_lt, den_len, den_get, asB_b, asI_i, ile_iff, ilt_iff, Int.toNat_zero]
  omega
theorem bd_2 {l : List Fact} (h1 : dq24 ∈ l) (h2 : dq26 ∈ l) (w : World) : (⟨l, (.x (.o .lt (.n 0) (.u .len (.o .get (.v 22) (.v 21)))))⟩ : Obl).ok ⟨w, IDl⟩ := by
  intro ρ hf hp hfs
  have h24 := dl24 hp (hfs _ h1)
  have hlt := dllt (hfs _ h2)
  obtain ⟨l1, l2, l3, l4, l5, k1, k2, k3, k4, hz⟩ := del_round h24 hlt
  clear hz
  have ii := h24.ii
  have nn := h24.nn
  clear h24
  simp only [Fact.ok, X.den, den_le, den_lt, den_len, den_get, asB_b, asI_i, ile_iff, ilt_iff, Int.toNat_zero]
  omega
theorem bd_3 {l : List Fact} (h1 : dq24 ∈ l) (h2 : dq26 ∈ l) (w : World) : (⟨l, (.x (.o .lt (.v 21) (.u .len (.v 23))))⟩ : Obl).ok ⟨w, IDl⟩ := by
  intro ρ hf hp hfs
  have h24 := dl24 hp (hfs _ h1)
  have hlt := dllt (hfs _ h2)
  obtain ⟨l1, l2, l3, l4, l5, k1, k2, k3, k4, hz⟩ := del_round h24 hlt
  clear hz
  have ii := h24.ii
  have nn := h24.nn
  clear h24
  simp only [Fact.ok, X.den, den_le, den_lt, den_len, den_get, asB_b, asI_i, ile_iff, ilt_iff, Int.toNat_zero]
  omega
theorem bd_4 {l : List Fact} (h1 : dq24 ∈ l) (h2 : dq26 ∈ l) (w : World) : (⟨l, (.x (.o .lt (.v 21) (.u .len (.v 24))))⟩ : Obl).ok ⟨w, IDl⟩ := by
  intro ρ hf hp hfs
  have h24 := dl24 hp (hfs _ h1)
  have hlt := dllt (hfs _ h2)
  obtain ⟨l1, l2, l3, l4, l5, k1, k2, k3, k4, hz⟩ := del_round h24 hlt
  clear hz
  have ii := h24.ii
  have nn := h24.nn
  clear h24
  simp only [Fact.ok, X.den, den_le, den_lt, den_len, den_get, asB_b, asI_i, ile_iff, ilt_iff, Int.toNat_zero]
  omega
theorem bd_5 {l : List Fact} (h1 : dq24 ∈ l) (h2 : dq26 ∈ l) (w : World) : (⟨l, (.x (.o .lt (.n 0) (.u .len (.o .get (.v 24) (.v 21)))))⟩ : Obl).ok ⟨w, IDl⟩ := by
  intro ρ hf hp hfs
  have h24 := dl24 hp (hfs _ h1)
  have hlt := dllt (hfs _ h2)
  obtain ⟨l1, l2, l3, l4, l5, k1, k2, k3, k4, hz⟩ := del_round h24 hlt
  clear hz
  have ii := h24.ii
  have nn := h24.nn
  clear h24
  simp only [Fact.ok, X.den, den_le, den_lt, den_len, den_get, asB_b, asI_i, ile_iff, ilt_iff, Int.toNat_zero]
  omega
theorem bd_6 {l : List Fact} (h1 : dq24 ∈ l) (h2 : dq26 ∈ l) (w : World) : (⟨l, (.x (.o .lt (.v 21) (.u .len (.v 25))))⟩ : Obl).ok ⟨w, IDl⟩ := by
  intro ρ hf hp hfs
  have h24 := dl24 hp (hfs _ h1)
  have hlt := dllt (hfs _ h2)
  obtain ⟨l1, l2, l3, l4, l5, k1, k2, k3, k4, hz⟩ := del_round h24 hlt
  clear hz
  have ii := h24.ii
  have nn := h24.nn
  clear h24
  simp only [Fact.ok, X.den, den_le, den_lt, den_len, den_get, asB_b, asI_i, ile_iff, ilt_iff, Int.toNat_zero]
  omega
theorem bd_7 {l : List Fact} (h1 : dq24 ∈ l) (h2 : dq26 ∈ l) (w : World) : (⟨l, (.x (.o .lt (.n 0) (.u .len (.o .get (.v 25) (.v 21)))))⟩ : Obl).ok ⟨w, IDl⟩ := by
  intro ρ hf hp hfs
  have h24 := dl24 hp (hfs _ h1)
  have hlt := dllt (hfs _ h2)
  obtain ⟨l1, l2, l3, l4, l5, k1, k2, k3, k4, hz⟩ := del_round h24 hlt
  clear hz
  have ii := h24.ii
  have nn := h24.nn
  clear h24
  simp only [Fact.ok, X.den, den_le, den_lt, den_len, den_get, asB_b, asI_i, ile_iff, ilt_iff, Int.toNat_zero]
  omega
theorem bd_8 {l : List Fact} (h1 : dq24 ∈ l) (h2 : dq26 ∈ l) (w : World) : (⟨l, (.x (.o .lt (.v 21) (.u .len (.v 26))))⟩ : Obl).ok ⟨w, IDl⟩ := by
  intro ρ hf hp hfs
  have h24 := dl24 hp (hfs _ h1)
  have hlt := dllt (hfs _ h2)
  obtain ⟨l1, l2, l3, l4, l5, k1, k2, k3, k4, hz⟩ := del_round h24 hlt
  clear hz
  have ii := h24.ii
  have nn := h24.nn
  clear h24
  simp only [Fact.ok, X.den, den_le, den_lt, den_len, den_get, asB_b, asI_i, ile_iff, ilt_iff, Int.toNat_zero]
  omega
theorem bd_9 {l : List Fact} (h1 : dq24 ∈ l) (h2 : dq26 ∈ l) (w : World) : (⟨l, (.x (.o .lt (.n 0) (.u .len (.o .get (.v 26) (.v 21)))))⟩ : Obl).ok ⟨w, IDl⟩ := by
  intro ρ hf hp hfs
  have h24 := dl24 hp (hfs _ h1)
  have hlt := dllt (hfs _ h2)
  obtain ⟨l1, l2, l3, l4, l5, k1, k2, k3, k4, hz⟩ := del_round h24 hlt
  clear hz
  have ii := h24.ii
  have nn := h24.nn
  clear h24
  simp only [Fact.ok, X.den, den_le, den_lt, den_len, den_get, asB_b, asI_i, ile_iff, ilt_iff, Int.toNat_zero]
  omega
def dg_0 : List Obl := [⟨[dq29, dq30, dq28, dq27, dq26, dq19, dq24, dq25], (.q (.o .and (.o .eq (.o .get (.o .get (.v 22) (.v 21)) (.n 0)) (.n 1)) (.u .not (.v 20))) (.u .not (.v 20)))⟩,
  ⟨[dq31, dq30, dq28, dq27, dq26, dq19, dq24, dq25], (.q (.o .and (.o .eq (.o .get (.o .get (.v 22) (.v 21)) (.n 0)) (.n 1)) (.u .not (.v 20))) (.t false))⟩]
theorem dg_0_ok (w : World) : ∀ o ∈ dg_0, o.ok ⟨w, IDl⟩ := by
  simp only [dg_0, List.forall_mem_cons, List.not_mem_nil, false_implies, implies_true, and_true]
  refine ⟨?_, ?_⟩
  all_goals
    intro ρ hf hp hfs
    have h24 := dl24 hp (hfs dq24 (by simp))
    have hlt := dllt (hfs dq26 (by simp))
    clear hf hp
    simp only [List.forall_mem_cons, List.not_mem_nil, false_implies, implies_true, and_true, dq19, dq24, dq25, dq26, dq27, dq28, dq29, dq30, dq31, Fact.ok, X.den, den_not, den_b2i, den_wrap, den_get, den_lt, den_le, den_eq, den_eqb, den_sub, den_len, den_or, den_and, den_cnd, asB_b, asI_i, asL_l, w64_def, Int.toNat_zero, den_addite] at hfs
    try simp only [den_add, asI_i, asI_cnd] at hfs
    try simp only [ieq, ile, ilt, decide_eq_true_eq, Bool.cond_eq_ite] at hfs
    obtain ⟨l1, l2, l3, l4, l5, k1, k2, k3, k4, n0, n1, n2, hv, b1, b2, b3, b4, b5, b6⟩ := del_round h24 hlt
    have su := h24.su
    have gu := h24.gu
    have qu := h24.qu
    have wu := h24.wu
    have ii := h24.ii
    have nn := h24.nn
    have p0 := h24.inp.p0
    simp only [Fact.ok, X.den, den_not, den_b2i, den_wrap, den_get, den_lt, den_le, den_eq, den_eqb, den_sub, den_len, den_or, den_and, den_cnd, asB_b, asI_i, asL_l, w64_def, Int.toNat_zero, den_addite]
    try simp only [den_add, asI_i, asI_cnd]
    try simp only [ieq, ile, ilt, Bool.cond_eq_ite]
    clear h24 hv l1 l2 l3 l4 l5
    generalize (ρ.v 22).asL.getD (ρ.v 21).asI.toNat default = rowU at *
    generalize (ρ.v 23).asL.getD (ρ.v 21).asI.toNat default = nowU at *
    generalize (ρ.v 24).asL.getD (ρ.v 21).asI.toNat default = aU at *
    generalize (ρ.v 25).asL.getD (ρ.v 21).asI.toNat default = bU at *
    generalize (ρ.v 26).asL.getD (ρ.v 21).asI.toNat default = cU at *
    try rw [wu]
    refine congrArg U.b ?_
    try simp only [asB_b]
    rw [Bool.eq_iff_iff]
    simp only [Bool.not_eq_true', Bool.or_eq_true, Bool.and_eq_true, decide_eq_true_eq, decide_eq_false_iff_not, beq_iff_eq, Bool.or_eq_false_iff, Bool.and_eq_false_imp, beq_eq_false_iff_ne, ne_eq, reduceCtorEq] at *
    grind
def dg_1 : List Obl := [⟨[dq33, dq32, dq30, dq28, dq27, dq26, dq19, dq24, dq25], (.q (.o .get (.v 23) (.v 21)) (.o .add (.c .ite (.o .and (.o .eq (.o .get (.o .get (.v 22) (.v 21)) (.n 0)) (.n 1)) (.u .not (.v 20))) (.o .get (.v 23) (.v 21)) (.v 17)) (.n 0)))⟩,
  ⟨[dq34, dq30, dq28, dq27, dq26, dq19, dq24, dq25], (.q (.v 17) (.o .add (.c .ite (.o .and (.o .eq (.o .get (.o .get (.v 22) (.v 21)) (.n 0)) (.n 1)) (.u .not (.v 20))) (.o .get (.v 23) (.v 21)) (.v 17)) (.n 0)))⟩]
theorem dg_1_ok (w : World) : ∀ o ∈ dg_1, o.ok ⟨w, IDl⟩ := by
  simp only [dg_1, List.forall_mem_cons, List.not_mem_nil, false_implies, implies_true, and_true]
  refine ⟨?_, ?_⟩
  all_goals
    intro ρ hf hp hfs
    have h24 := dl24 hp (hfs dq24 (by simp))
    have hlt := dllt (hfs dq26 (by simp))
    clear hf hp
    simp only [List.forall_mem_cons, List.not_mem_nil, false_implies, implies_true, and_true, dq19, dq24, dq25, dq26, dq27, dq28, dq30, dq32, dq33, dq34, Fact.ok, X.den, den_not, den_b2i, den_wrap, den_get, den_lt, den_le, den_eq, den_eqb, den_sub, den_len, den_or, den_and, den_cnd, asB_b, asI_i, asL_l, w64_def, Int.toNat_zero, den_addite] at hfs
    try simp only [den_add, asI_i, asI_cnd] at hfs
    try simp only [ieq, ile, ilt, decide_eq_true_eq, Bool.cond_eq_ite] at hfs
    obtain ⟨l1, l2, l3, l4, l5, k1, k2, k3, k4, n0, n1, n2, hv, b1, b2, b3, b4, b5, b6⟩ := del_round h24 hlt
    have su := h24.su
    have gu := h24.gu
    have qu := h24.qu
    have wu := h24.wu
    have ii := h24.ii
    have nn := h24.nn
    have p0 := h24.inp.p0
    simp only [Fact.ok, X.den, den_not, den_b2i, den_wrap, den_get, den_lt, den_le, den_eq, den_eqb, den_sub, den_len, den_or, den_and, den_cnd, asB_b, asI_i, asL_l, w64_def, Int.toNat_zero, den_addite]
    try simp only [den_add, asI_i, asI_cnd]
    try simp only [ieq, ile, ilt, Bool.cond_eq_ite]
    clear h24 hv l1 l2 l3 l4 l5
    generalize (ρ.v 22).asL.getD (ρ.v 21).asI.toNat default = rowU at *
    generalize (ρ.v 23).asL.getD (ρ.v 21).asI.toNat default = nowU at *
    generalize (ρ.v 24).asL.getD (ρ.v 21).asI.toNat default = aU at *
    generalize (ρ.v 25).asL.getD (ρ.v 21).asI.toNat default = bU at *
    generalize (ρ.v 26).asL.getD (ρ.v 21).asI.toNat default = cU at *
    grind
def dg_2 : List Obl := [⟨[dq31, dq35, dq30, dq28, dq27, dq26, dq19, dq24, dq25], (.q (.o .and (.u .not (.o .eq (.o .get (.o .get (.v 22) (.v 21)) (.n 0)) (.n 1))) (.v 20)) (.v 20))⟩,
  ⟨[dq29, dq35, dq30, dq28, dq27, dq26, dq19, dq24, dq25], (.q (.o .and (.u .not (.o .eq (.o .get (.o .get (.v 22) (.v 21)) (.n 0)) (.n 1))) (.v 20)) (.t false))⟩]
theorem dg_2_ok (w : World) : ∀ o ∈ dg_2, o.ok ⟨w, IDl⟩ := by
  simp only [dg_2, List.forall_mem_cons, List.not_mem_nil, false_implies, implies_true, and_true]
  refine ⟨?_, ?_⟩
  all_goals
    intro ρ hf hp hfs
    have h24 := dl24 hp (hfs dq24 (by simp))
    have hlt := dllt (hfs dq26 (by simp))
    have u28 := hfs dq35 (by simp)
    clear hf hp
    simp only [dq35, Fact.ok, X.den, den_not, den_b2i, den_wrap, den_get, den_lt, den_le, den_eq, den_eqb, den_sub, den_len, den_or, den_and, den_cnd, asB_b, asI_i, asL_l, w64_def, Int.toNat_zero, den_addite] at u28
    try simp only [den_add, asI_i, asI_cnd] at u28
    simp only [ieq, ile, ilt, Bool.cond_eq_ite] at u28
    have i28 := congrArg U.asI u28
    rw [asI_i] at i28
    have t28 : ρ.v 28 = .i (ρ.v 28).asI := by rw [u28]; rfl
    simp only [List.forall_mem_cons, List.not_mem_nil, false_implies, implies_true, and_true, dq19, dq24, dq25, dq26, dq27, dq28, dq29, dq30, dq31, dq35, Fact.ok, X.den, den_not, den_b2i, den_wrap, den_get, den_lt, den_le, den_eq, den_eqb, den_sub, den_len, den_or, den_and, den_cnd, asB_b, asI_i, asL_l, w64_def, Int.toNat_zero, den_addite] at hfs
    try simp only [den_add, asI_i, asI_cnd] at hfs
    try simp only [ieq, ile, ilt, decide_eq_true_eq, Bool.cond_eq_ite] at hfs
    obtain ⟨l1, l2, l3, l4, l5, k1, k2, k3, k4, n0, n1, n2, hv, b1, b2, b3, b4, b5, b6⟩ := del_round h24 hlt
    have su := h24.su
    have gu := h24.gu
    have qu := h24.qu
    have wu := h24.wu
    have ii := h24.ii
    have nn := h24.nn
    have p0 := h24.inp.p0
    simp only [Fact.ok, X.den, den_not, den_b2i, den_wrap, den_get, den_lt, den_le, den_eq, den_eqb, den_sub, den_len, den_or, den_and, den_cnd, asB_b, asI_i, asL_l, w64_def, Int.toNat_zero, den_addite]
    try simp only [den_add, asI_i, asI_cnd]
    try simp only [ieq, ile, ilt, Bool.cond_eq_ite]
    clear h24 hv l1 l2 l3 l4 l5
    generalize (ρ.v 22).asL.getD (ρ.v 21).asI.toNat default = rowU at *
    generalize (ρ.v 23).asL.getD (ρ.v 21).asI.toNat default = nowU at *
    generalize (ρ.v 24).asL.getD (ρ.v 21).asI.toNat default = aU at *
    generalize (ρ.v 25).asL.getD (ρ.v 21).asI.toNat default = bU at *
    generalize (ρ.v 26).asL.getD (ρ.v 21).asI.toNat default = cU at *
    try rw [wu]
    refine congrArg U.b ?_
    try simp only [asB_b]
    rw [Bool.eq_iff_iff]
    simp only [Bool.not_eq_true', Bool.or_eq_true, Bool.and_eq_true, decide_eq_true_eq, decide_eq_false_iff_not, beq_iff_eq, Bool.or_eq_false_iff, Bool.and_eq_false_imp, beq_eq_false_iff_ne, ne_eq, reduceCtorEq] at *
    grind
def dg_3 : List Obl := [⟨[dq33, dq36, dq35, dq30, dq28, dq27, dq26, dq19, dq24, dq25], (.q (.o .get (.v 23) (.v 21)) (.o .add (.c .ite (.o .and (.u .not (.o .eq (.o .get (.o .get (.v 22) (.v 21)) (.n 0)) (.n 1))) (.v 20)) (.o .get (.v 23) (.v 21)) (.v 18)) (.n 0)))⟩,
  ⟨[dq37, dq35, dq30, dq28, dq27, dq26, dq19, dq24, dq25], (.q (.v 18) (.o .add (.c .ite (.o .and (.u .not (.o .eq (.o .get (.o .get (.v 22) (.v 21)) (.n 0)) (.n 1))) (.v 20)) (.o .get (.v 23) (.v 21)) (.v 18)) (.n 0)))⟩]
theorem dg_3_ok (w : World) : ∀ o ∈ dg_3, o.ok ⟨w, IDl⟩ := by
  simp only [dg_3, List.forall_mem_cons, List.not_mem_nil, false_implies, implies_true, and_true]
  refine ⟨?_, ?_⟩
  all_goals
    intro ρ hf hp hfs
    have h24 := dl24 hp (hfs dq24 (by simp))
    have hlt := dllt (hfs dq26 (by simp))
    have u28 := hfs dq35 (by simp)
    clear hf hp
    simp only [dq35, Fact.ok, X.den, den_not, den_b2i, den_wrap, den_get, den_lt, den_le, den_eq, den_eqb, den_sub, den_len, den_or, den_and, den_cnd, asB_b, asI_i, asL_l, w64_def, Int.toNat_zero, den_addite] at u28
    try simp only [den_add, asI_i, asI_cnd] at u28
    simp only [ieq, ile, ilt, Bool.cond_eq_ite] at u28
    have i28 := congrArg U.asI u28
    rw [asI_i] at i28
    have t28 : ρ.v 28 = .i (ρ.v 28).asI := by rw [u28]; rfl
    simp only [List.forall_mem_cons, List.not_mem_nil, false_implies, implies_true, and_true, dq19, dq24, dq25, dq26, dq27, dq28, dq30, dq33, dq35, dq36, dq37, Fact.ok, X.den, den_not, den_b2i, den_wrap, den_get, den_lt, den_le, den_eq, den_eqb, den_sub, den_len, den_or, den_and, den_cnd, asB_b, asI_i, asL_l, w64_def, Int.toNat_zero, den_addite] at hfs
    try simp only [den_add, asI_i, asI_cnd] at hfs
    try simp only [ieq, ile, ilt, decide_eq_true_eq, Bool.cond_eq_ite] at hfs
    obtain ⟨l1, l2, l3, l4, l5, k1, k2, k3, k4, n0, n1, n2, hv, b1, b2, b3, b4, b5, b6⟩ := del_round h24 hlt
    have su := h24.su
    have gu := h24.gu
    have qu := h24.qu
    have wu := h24.wu
    have ii := h24.ii
    have nn := h24.nn
    have p0 := h24.inp.p0
    simp only [Fact.ok, X.den, den_not, den_b2i, den_wrap, den_get, den_lt, den_le, den_eq, den_eqb, den_sub, den_len, den_or, den_and, den_cnd, asB_b, asI_i, asL_l, w64_def, Int.toNat_zero, den_addite]
    try simp only [den_add, asI_i, asI_cnd]
    try simp only [ieq, ile, ilt, Bool.cond_eq_ite]
    clear h24 hv l1 l2 l3 l4 l5
    generalize (ρ.v 22).asL.getD (ρ.v 21).asI.toNat default = rowU at *
    generalize (ρ.v 23).asL.getD (ρ.v 21).asI.toNat default = nowU at *
    generalize (ρ.v 24).asL.getD (ρ.v 21).asI.toNat default = aU at *
    generalize (ρ.v 25).asL.getD (ρ.v 21).asI.toNat default = bU at *
    generalize (ρ.v 26).asL.getD (ρ.v 21).asI.toNat default = cU at *
    grind
def dg_4 : List Obl := [⟨[dq33, dq38, dq39, dq35, dq30, dq28, dq27, dq26, dq19, dq24, dq25], (.q (.o .and (.o .le (.n 0) (.v 19)) (.o .le (.v 27) (.u (.wrap .i64) (.o .sub (.o .get (.v 23) (.v 21)) (.v 19))))) (.o .le (.v 27) (.u (.wrap .i64) (.o .sub (.o .get (.v 23) (.v 21)) (.v 19)))))⟩,
  ⟨[dq40, dq39, dq35, dq30, dq28, dq27, dq26, dq19, dq24, dq25], (.q (.o .and (.o .le (.n 0) (.v 19)) (.o .le (.v 27) (.u (.wrap .i64) (.o .sub (.o .get (.v 23) (.v 21)) (.v 19))))) (.t false))⟩]
theorem dg_4_ok (w : World) : ∀ o ∈ dg_4, o.ok ⟨w, IDl⟩ := by
  simp only [dg_4, List.forall_mem_cons, List.not_mem_nil, false_implies, implies_true, and_true]
  refine ⟨?_, ?_⟩
  all_goals
    intro ρ hf hp hfs
    have h24 := dl24 hp (hfs dq24 (by simp))
    have hlt := dllt (hfs dq26 (by simp))
    have u28 := hfs dq35 (by simp)
    have u29 := hfs dq39 (by simp)
    clear hf hp
    simp only [dq35, dq39, Fact.ok, X.den, den_not, den_b2i, den_wrap, den_get, den_lt, den_le, den_eq, den_eqb, den_sub, den_len, den_or, den_and, den_cnd, asB_b, asI_i, asL_l, w64_def, Int.toNat_zero, den_addite] at u28 u29
    try simp only [den_add, asI_i, asI_cnd] at u28 u29
    simp only [ieq, ile, ilt, Bool.cond_eq_ite] at u28 u29
    have i28 := congrArg U.asI u28
    rw [asI_i] at i28
    have t28 : ρ.v 28 = .i (ρ.v 28).asI := by rw [u28]; rfl
    have i29 := congrArg U.asI u29
    rw [asI_i] at i29
    have t29 : ρ.v 29 = .i (ρ.v 29).asI := by rw [u29]; rfl
    simp only [List.forall_mem_cons, List.not_mem_nil, false_implies, implies_true, and_true, dq19, dq24, dq25, dq26, dq27, dq28, dq30, dq33, dq35, dq38, dq39, dq40, Fact.ok, X.den, den_not, den_b2i, den_wrap, den_get, den_lt, den_le, den_eq, den_eqb, den_sub, den_len, den_or, den_and, den_cnd, asB_b, asI_i, asL_l, w64_def, Int.toNat_zero, den_addite] at hfs
    try simp only [den_add, asI_i, asI_cnd] at hfs
    try simp only [ieq, ile, ilt, decide_eq_true_eq, Bool.cond_eq_ite] at hfs
    obtain ⟨l1, l2, l3, l4, l5, k1, k2, k3, k4, n0, n1, n2, hv, b1, b2, b3, b4, b5, b6⟩ := del_round h24 hlt
    have su := h24.su
    have gu := h24.gu
    have qu := h24.qu
    have wu := h24.wu
    have ii := h24.ii
    have nn := h24.nn
    have p0 := h24.inp.p0
    simp only [Fact.ok, X.den, den_not, den_b2i, den_wrap, den_get, den_lt, den_le, den_eq, den_eqb, den_sub, den_len, den_or, den_and, den_cnd, asB_b, asI_i, asL_l, w64_def, Int.toNat_zero, den_addite]
    try simp only [den_add, asI_i, asI_cnd]
    try simp only [ieq, ile, ilt, Bool.cond_eq_ite]
    clear h24 hv l1 l2 l3 l4 l5
    generalize (ρ.v 22).asL.getD (ρ.v 21).asI.toNat default = rowU at *
    generalize (ρ.v 23).asL.getD (ρ.v 21).asI.toNat default = nowU at *
    generalize (ρ.v 24).asL.getD (ρ.v 21).asI.toNat default = aU at *
    generalize (ρ.v 25).asL.getD (ρ.v 21).asI.toNat default = bU at *
    generalize (ρ.v 26).asL.getD (ρ.v 21).asI.toNat default = cU at *
    try rw [wu]
    refine congrArg U.b ?_
    try simp only [asB_b]
    rw [Bool.eq_iff_iff]
    simp only [Bool.not_eq_true', Bool.or_eq_true, Bool.and_eq_true, decide_eq_true_eq, decide_eq_false_iff_not, beq_iff_eq, Bool.or_eq_false_iff, Bool.and_eq_false_imp, beq_eq_false_iff_ne, ne_eq, reduceCtorEq] at *
    grind
def dg_5 : List Obl := [⟨[dq32, dq41, dq39, dq35, dq30, dq28, dq27, dq26, dq19, dq24, dq25], (.q (.n (-2)) (.o .add (.c .ite (.o .and (.o .le (.n 0) (.v 19)) (.o .le (.v 27) (.u (.wrap .i64) (.o .sub (.o .get (.v 23) (.v 21)) (.v 19))))) (.c .ite (.o .and (.o .eq (.o .get (.o .get (.v 22) (.v 21)) (.n 0)) (.n 1)) (.u .not (.v 20))) (.n (-2)) (.n (-1))) (.v 19)) (.n 0)))⟩,
  ⟨[dq34, dq41, dq39, dq35, dq30, dq28, dq27, dq26, dq19, dq24, dq25], (.q (.n (-1)) (.o .add (.c .ite (.o .and (.o .le (.n 0) (.v 19)) (.o .le (.v 27) (.u (.wrap .i64) (.o .sub (.o .get (.v 23) (.v 21)) (.v 19))))) (.c .ite (.o .and (.o .eq (.o .get (.o .get (.v 22) (.v 21)) (.n 0)) (.n 1)) (.u .not (.v 20))) (.n (-2)) (.n (-1))) (.v 19)) (.n 0)))⟩,
  ⟨[dq42, dq39, dq35, dq30, dq28, dq27, dq26, dq19, dq24, dq25], (.q (.v 19) (.o .add (.c .ite (.o .and (.o .le (.n 0) (.v 19)) (.o .le (.v 27) (.u (.wrap .i64) (.o .sub (.o .get (.v 23) (.v 21)) (.v 19))))) (.c .ite (.o .and (.o .eq (.o .get (.o .get (.v 22) (.v 21)) (.n 0)) (.n 1)) (.u .not (.v 20))) (.n (-2)) (.n (-1))) (.v 19)) (.n 0)))⟩]
theorem dg_5_ok (w : World) : ∀ o ∈ dg_5, o.ok ⟨w, IDl⟩ := by
  simp only [dg_5, List.forall_mem_cons, List.not_mem_nil, false_implies, implies_true, and_true]
  refine ⟨?_, ?_, ?_⟩
  all_goals
    intro ρ hf hp hfs
    have h24 := dl24 hp (hfs dq24 (by simp))
    have hlt := dllt (hfs dq26 (by simp))
    have u28 := hfs dq35 (by simp)
    have u29 := hfs dq39 (by simp)
    clear hf hp
    simp only [dq35, dq39, Fact.ok, X.den, den_not, den_b2i, den_wrap, den_get, den_lt, den_le, den_eq, den_eqb, den_sub, den_len, den_or, den_and, den_cnd, asB_b, asI_i, asL_l, w64_def, Int.toNat_zero, den_addite] at u28 u29
    try simp only [den_add, asI_i, asI_cnd] at u28 u29
    simp only [ieq, ile, ilt, Bool.cond_eq_ite] at u28 u29
    have i28 := congrArg U.asI u28
    rw [asI_i] at i28
    have t28 : ρ.v 28 = .i (ρ.v 28).asI := by rw [u28]; rfl
    have i29 := congrArg U.asI u29
    rw [asI_i] at i29
    have t29 : ρ.v 29 = .i (ρ.v 29).asI := by rw [u29]; rfl
    simp only [List.forall_mem_cons, List.not_mem_nil, false_implies, implies_true, and_true, dq19, dq24, dq25, dq26, dq27, dq28, dq30, dq32, dq34, dq35, dq39, dq41, dq42, Fact.ok, X.den, den_not, den_b2i, den_wrap, den_get, den_lt, den_le, den_eq, den_eqb, den_sub, den_len, den_or, den_and, den_cnd, asB_b, asI_i, asL_l, w64_def, Int.toNat_zero, den_addite] at hfs
    try simp only [den_add, asI_i, asI_cnd] at hfs
    try simp only [ieq, ile, ilt, decide_eq_true_eq, Bool.cond_eq_ite] at hfs
    obtain ⟨l1, l2, l3, l4, l5, k1, k2, k3, k4, n0, n1, n2, hv, b1, b2, b3, b4, b5, b6⟩ := del_round h24 hlt
    have su := h24.su
    have gu := h24.gu
    have qu := h24.qu
    have wu := h24.wu
    have ii := h24.ii
    have nn := h24.nn
    have p0 := h24.inp.p0
    simp only [Fact.ok, X.den, den_not, den_b2i, den_wrap, den_get, den_lt, den_le, den_eq, den_eqb, den_sub, den_len, den_or, den_and, den_cnd, asB_b, asI_i, asL_l, w64_def, Int.toNat_zero, den_addite]
    try simp only [den_add, asI_i, asI_cnd]
    try simp only [ieq, ile, ilt, Bool.cond_eq_ite]
    clear h24 hv l1 l2 l3 l4 l5
    generalize (ρ.v 22).asL.getD (ρ.v 21).asI.toNat default = rowU at *
    generalize (ρ.v 23).asL.getD (ρ.v 21).asI.toNat default = nowU at *
    generalize (ρ.v 24).asL.getD (ρ.v 21).asI.toNat default = aU at *
    generalize (ρ.v 25).asL.getD (ρ.v 21).asI.toNat default = bU at *
    generalize (ρ.v 26).asL.getD (ρ.v 21).asI.toNat default = cU at *
    grind
def dg_6 : List Obl := [⟨[dq29, dq43, dq44, dq39, dq35, dq30, dq28, dq27, dq26, dq19, dq24, dq25], (.q (.o .and (.o .eq (.v 30) (.n (-1))) (.o .and (.o .eq (.o .get (.o .get (.v 22) (.v 21)) (.n 0)) (.n 1)) (.u .not (.v 20)))) (.u .not (.v 20)))⟩,
  ⟨[dq31, dq43, dq44, dq39, dq35, dq30, dq28, dq27, dq26, dq19, dq24, dq25], (.q (.o .and (.o .eq (.v 30) (.n (-1))) (.o .and (.o .eq (.o .get (.o .get (.v 22) (.v 21)) (.n 0)) (.n 1)) (.u .not (.v 20)))) (.t false))⟩,
  ⟨[dq45, dq44, dq39, dq35, dq30, dq28, dq27, dq26, dq19, dq24, dq25], (.q (.o .and (.o .eq (.v 30) (.n (-1))) (.o .and (.o .eq (.o .get (.o .get (.v 22) (.v 21)) (.n 0)) (.n 1)) (.u .not (.v 20)))) (.t false))⟩]
theorem dg_6_ok (w : World) : ∀ o ∈ dg_6, o.ok ⟨w, IDl⟩ := by
  simp only [dg_6, List.forall_mem_cons, List.not_mem_nil, false_implies, implies_true, and_true]
  refine ⟨?_, ?_, ?_⟩
  all_goals
    intro ρ hf hp hfs
    have h24 := dl24 hp (hfs dq24 (by simp))
    have hlt := dllt (hfs dq26 (by simp))
    have u28 := hfs dq35 (by simp)
    have u29 := hfs dq39 (by simp)
    have u30 := hfs dq44 (by simp)
    clear hf hp
    simp only [dq35, dq39, dq44, Fact.ok, X.den, den_not, den_b2i, den_wrap, den_get, den_lt, den_le, den_eq, den_eqb, den_sub, den_len, den_or, den_and, den_cnd, asB_b, asI_i, asL_l, w64_def, Int.toNat_zero, den_addite] at u28 u29 u30
    try simp only [den_add, asI_i, asI_cnd] at u28 u29 u30
    simp only [ieq, ile, ilt, Bool.cond_eq_ite] at u28 u29 u30
    have i28 := congrArg U.asI u28
    rw [asI_i] at i28
    have t28 : ρ.v 28 = .i (ρ.v 28).asI := by rw [u28]; rfl
    have i29 := congrArg U.asI u29
    rw [asI_i] at i29
    have t29 : ρ.v 29 = .i (ρ.v 29).asI := by rw [u29]; rfl
    have i30 := congrArg U.asI u30
    rw [asI_i] at i30
    have t30 : ρ.v 30 = .i (ρ.v 30).asI := by rw [u30]; rfl
    simp only [List.forall_mem_cons, List.not_mem_nil, false_implies, implies_true, and_true, dq19, dq24, dq25, dq26, dq27, dq28, dq29, dq30, dq31, dq35, dq39, dq43, dq44, dq45, Fact.ok, X.den, den_not, den_b2i, den_wrap, den_get, den_lt, den_le, den_eq, den_eqb, den_sub, den_len, den_or, den_and, den_cnd, asB_b, asI_i, asL_l, w64_def, Int.toNat_zero, den_addite] at hfs
    try simp only [den_add, asI_i, asI_cnd] at hfs
    try simp only [ieq, ile, ilt, decide_eq_true_eq, Bool.cond_eq_ite] at hfs
    obtain ⟨l1, l2, l3, l4, l5, k1, k2, k3, k4, n0, n1, n2, hv, b1, b2, b3, b4, b5, b6⟩ := del_round h24 hlt
    have su := h24.su
    have gu := h24.gu
    have qu := h24.qu
    have wu := h24.wu
    have ii := h24.ii
    have nn := h24.nn
    have p0 := h24.inp.p0
    simp only [Fact.ok, X.den, den_not, den_b2i, den_wrap, den_get, den_lt, den_le, den_eq, den_eqb, den_sub, den_len, den_or, den_and, den_cnd, asB_b, asI_i, asL_l, w64_def, Int.toNat_zero, den_addite]
    try simp only [den_add, asI_i, asI_cnd]
    try simp only [ieq, ile, ilt, Bool.cond_eq_ite]
    clear h24 hv l1 l2 l3 l4 l5
    generalize (ρ.v 22).asL.getD (ρ.v 21).asI.toNat default = rowU at *
    generalize (ρ.v 23).asL.getD (ρ.v 21).asI.toNat default = nowU at *
    generalize (ρ.v 24).asL.getD (ρ.v 21).asI.toNat default = aU at *
    generalize (ρ.v 25).asL.getD (ρ.v 21).asI.toNat default = bU at *
    generalize (ρ.v 26).asL.getD (ρ.v 21).asI.toNat default = cU at *
    try rw [wu]
    refine congrArg U.b ?_
    try simp only [asB_b]
    rw [Bool.eq_iff_iff]
    simp only [Bool.not_eq_true', Bool.or_eq_true, Bool.and_eq_true, decide_eq_true_eq, decide_eq_false_iff_not, beq_iff_eq, Bool.or_eq_false_iff, Bool.and_eq_false_imp, beq_eq_false_iff_ne, ne_eq, reduceCtorEq] at *
    grind
def dg_7 : List Obl := [⟨[dq33, dq46, dq44, dq39, dq35, dq30, dq28, dq27, dq26, dq19, dq24, dq25], (.q (.o .get (.v 23) (.v 21)) (.o .add (.c .ite (.o .and (.o .eq (.v 30) (.n (-1))) (.o .and (.o .eq (.o .get (.o .get (.v 22) (.v 21)) (.n 0)) (.n 1)) (.u .not (.v 20)))) (.o .get (.v 23) (.v 21)) (.v 30)) (.n 0)))⟩,
  ⟨[dq47, dq44, dq39, dq35, dq30, dq28, dq27, dq26, dq19, dq24, dq25], (.q (.v 30) (.o .add (.c .ite (.o .and (.o .eq (.v 30) (.n (-1))) (.o .and (.o .eq (.o .get (.o .get (.v 22) (.v 21)) (.n 0)) (.n 1)) (.u .not (.v 20)))) (.o .get (.v 23) (.v 21)) (.v 30)) (.n 0)))⟩]
theorem dg_7_ok (w : World) : ∀ o ∈ dg_7, o.ok ⟨w, IDl⟩ := by
  simp only [dg_7, List.forall_mem_cons, List.not_mem_nil, false_implies, implies_true, and_true]
  refine ⟨?_, ?_⟩
  all_goals
    intro ρ hf hp hfs
    have h24 := dl24 hp (hfs dq24 (by simp))
    have hlt := dllt (hfs dq26 (by simp))
    have u28 := hfs dq35 (by simp)
    have u29 := hfs dq39 (by simp)
    have u30 := hfs dq44 (by simp)
    clear hf hp
    simp only [dq35, dq39, dq44, Fact.ok, X.den, den_not, den_b2i, den_wrap, den_get, den_lt, den_le, den_eq, den_eqb, den_sub, den_len, den_or, den_and, den_cnd, asB_b, asI_i, asL_l, w64_def, Int.toNat_zero, den_addite] at u28 u29 u30
    try simp only [den_add, asI_i, asI_cnd] at u28 u29 u30
    simp only [ieq, ile, ilt, Bool.cond_eq_ite] at u28 u29 u30
    have i28 := congrArg U.asI u28
    rw [asI_i] at i28
    have t28 : ρ.v 28 = .i (ρ.v 28).asI := by rw [u28]; rfl
    have i29 := congrArg U.asI u29
    rw [asI_i] at i29
    have t29 : ρ.v 29 = .i (ρ.v 29).asI := by rw [u29]; rfl
    have i30 := congrArg U.asI u30
    rw [asI_i] at i30
    have t30 : ρ.v 30 = .i (ρ.v 30).asI := by rw [u30]; rfl
    simp only [List.forall_mem_cons, List.not_mem_nil, false_implies, implies_true, and_true, dq19, dq24, dq25, dq26, dq27, dq28, dq30, dq33, dq35, dq39, dq44, dq46, dq47, Fact.ok, X.den, den_not, den_b2i, den_wrap, den_get, den_lt, den_le, den_eq, den_eqb, den_sub, den_len, den_or, den_and, den_cnd, asB_b, asI_i, asL_l, w64_def, Int.toNat_zero, den_addite] at hfs
    try simp only [den_add, asI_i, asI_cnd] at hfs
    try simp only [ieq, ile, ilt, decide_eq_true_eq, Bool.cond_eq_ite] at hfs
    obtain ⟨l1, l2, l3, l4, l5, k1, k2, k3, k4, n0, n1, n2, hv, b1, b2, b3, b4, b5, b6⟩ := del_round h24 hlt
    have su := h24.su
    have gu := h24.gu
    have qu := h24.qu
    have wu := h24.wu
    have ii := h24.ii
    have nn := h24.nn
    have p0 := h24.inp.p0
    simp only [Fact.ok, X.den, den_not, den_b2i, den_wrap, den_get, den_lt, den_le, den_eq, den_eqb, den_sub, den_len, den_or, den_and, den_cnd, asB_b, asI_i, asL_l, w64_def, Int.toNat_zero, den_addite]
    try simp only [den_add, asI_i, asI_cnd]
    try simp only [ieq, ile, ilt, Bool.cond_eq_ite]
    clear h24 hv l1 l2 l3 l4 l5
    generalize (ρ.v 22).asL.getD (ρ.v 21).asI.toNat default = rowU at *
    generalize (ρ.v 23).asL.getD (ρ.v 21).asI.toNat default = nowU at *
    generalize (ρ.v 24).asL.getD (ρ.v 21).asI.toNat default = aU at *
    generalize (ρ.v 25).asL.getD (ρ.v 21).asI.toNat default = bU at *
    generalize (ρ.v 26).asL.getD (ρ.v 21).asI.toNat default = cU at *
    grind
def dg_8 : List Obl := [⟨[dq48, dq49, dq50, dq29, dq51, dq44, dq39, dq35, dq30, dq28, dq27, dq26, dq19, dq24, dq25], (.q (.o .or (.u .not (.o .eqb (.o .eq (.o .get (.o .get (.v 24) (.v 21)) (.n 0)) (.n 1)) (.o .and (.o .eq (.o .get (.o .get (.v 22) (.v 21)) (.n 0)) (.n 1)) (.o .le (.v 27) (.u (.wrap .i64) (.o .sub (.o .get (.v 23) (.v 21)) (.v 28))))))) (.u .not (.o .eqb (.o .eq (.o .get (.o .get (.v 25) (.v 21)) (.n 0)) (.n 1)) (.o .or (.o .eq (.o .get (.o .get (.v 22) (.v 21)) (.n 0)) (.n 1)) (.o .and (.o .le (.n 0) (.v 29)) (.o .lt (.u (.wrap .i64) (.o .sub (.o .get (.v 23) (.v 21)) (.v 29))) (.v 27))))))) (.u .not (.o .eq (.o .get (.o .get (.v 25) (.v 21)) (.n 0)) (.n 1))))⟩,
  ⟨[dq52, dq49, dq50, dq29, dq51, dq44, dq39, dq35, dq30, dq28, dq27, dq26, dq19, dq24, dq25], (.q (.o .or (.u .not (.o .eqb (.o .eq (.o .get (.o .get (.v 24) (.v 21)) (.n 0)) (.n 1)) (.o .and (.o .eq (.o .get (.o .get (.v 22) (.v 21)) (.n 0)) (.n 1)) (.o .le (.v 27) (.u (.wrap .i64) (.o .sub (.o .get (.v 23) (.v 21)) (.v 28))))))) (.u .not (.o .eqb (.o .eq (.o .get (.o .get (.v 25) (.v 21)) (.n 0)) (.n 1)) (.o .or (.o .eq (.o .get (.o .get (.v 22) (.v 21)) (.n 0)) (.n 1)) (.o .and (.o .le (.n 0) (.v 29)) (.o .lt (.u (.wrap .i64) (.o .sub (.o .get (.v 23) (.v 21)) (.v 29))) (.v 27))))))) (.u .not (.o .eq (.o .get (.o .get (.v 25) (.v 21)) (.n 0)) (.n 1))))⟩,
  ⟨[dq48, dq53, dq50, dq29, dq51, dq44, dq39, dq35, dq30, dq28, dq27, dq26, dq19, dq24, dq25], (.q (.o .or (.u .not (.o .eqb (.o .eq (.o .get (.o .get (.v 24) (.v 21)) (.n 0)) (.n 1)) (.o .and (.o .eq (.o .get (.o .get (.v 22) (.v 21)) (.n 0)) (.n 1)) (.o .le (.v 27) (.u (.wrap .i64) (.o .sub (.o .get (.v 23) (.v 21)) (.v 28))))))) (.u .not (.o .eqb (.o .eq (.o .get (.o .get (.v 25) (.v 21)) (.n 0)) (.n 1)) (.o .or (.o .eq (.o .get (.o .get (.v 22) (.v 21)) (.n 0)) (.n 1)) (.o .and (.o .le (.n 0) (.v 29)) (.o .lt (.u (.wrap .i64) (.o .sub (.o .get (.v 23) (.v 21)) (.v 29))) (.v 27))))))) (.t true))⟩,
  ⟨[dq52, dq53, dq50, dq29, dq51, dq44, dq39, dq35, dq30, dq28, dq27, dq26, dq19, dq24, dq25], (.q (.o .or (.u .not (.o .eqb (.o .eq (.o .get (.o .get (.v 24) (.v 21)) (.n 0)) (.n 1)) (.o .and (.o .eq (.o .get (.o .get (.v 22) (.v 21)) (.n 0)) (.n 1)) (.o .le (.v 27) (.u (.wrap .i64) (.o .sub (.o .get (.v 23) (.v 21)) (.v 28))))))) (.u .not (.o .eqb (.o .eq (.o .get (.o .get (.v 25) (.v 21)) (.n 0)) (.n 1)) (.o .or (.o .eq (.o .get (.o .get (.v 22) (.v 21)) (.n 0)) (.n 1)) (.o .and (.o .le (.n 0) (.v 29)) (.o .lt (.u (.wrap .i64) (.o .sub (.o .get (.v 23) (.v 21)) (.v 29))) (.v 27))))))) (.t true))⟩,
  ⟨[dq48, dq49, dq54, dq29, dq51, dq44, dq39, dq35, dq30, dq28, dq27, dq26, dq19, dq24, dq25], (.q (.o .or (.u .not (.o .eqb (.o .eq (.o .get (.o .get (.v 24) (.v 21)) (.n 0)) (.n 1)) (.o .and (.o .eq (.o .get (.o .get (.v 22) (.v 21)) (.n 0)) (.n 1)) (.o .le (.v 27) (.u (.wrap .i64) (.o .sub (.o .get (.v 23) (.v 21)) (.v 28))))))) (.u .not (.o .eqb (.o .eq (.o .get (.o .get (.v 25) (.v 21)) (.n 0)) (.n 1)) (.o .or (.o .eq (.o .get (.o .get (.v 22) (.v 21)) (.n 0)) (.n 1)) (.o .and (.o .le (.n 0) (.v 29)) (.o .lt (.u (.wrap .i64) (.o .sub (.o .get (.v 23) (.v 21)) (.v 29))) (.v 27))))))) (.t true))⟩,
  ⟨[dq52, dq49, dq54, dq29, dq51, dq44, dq39, dq35, dq30, dq28, dq27, dq26, dq19, dq24, dq25], (.q (.o .or (.u .not (.o .eqb (.o .eq (.o .get (.o .get (.v 24) (.v 21)) (.n 0)) (.n 1)) (.o .and (.o .eq (.o .get (.o .get (.v 22) (.v 21)) (.n 0)) (.n 1)) (.o .le (.v 27) (.u (.wrap .i64) (.o .sub (.o .get (.v 23) (.v 21)) (.v 28))))))) (.u .not (.o .eqb (.o .eq (.o .get (.o .get (.v 25) (.v 21)) (.n 0)) (.n 1)) (.o .or (.o .eq (.o .get (.o .get (.v 22) (.v 21)) (.n 0)) (.n 1)) (.o .and (.o .le (.n 0) (.v 29)) (.o .lt (.u (.wrap .i64) (.o .sub (.o .get (.v 23) (.v 21)) (.v 29))) (.v 27))))))) (.t true))⟩,
  ⟨[dq48, dq53, dq54, dq29, dq51, dq44, dq39, dq35, dq30, dq28, dq27, dq26, dq19, dq24, dq25], (.q (.o .or (.u .not (.o .eqb (.o .eq (.o .get (.o .get (.v 24) (.v 21)) (.n 0)) (.n 1)) (.o .and (.o .eq (.o .get (.o .get (.v 22) (.v 21)) (.n 0)) (.n 1)) (.o .le (.v 27) (.u (.wrap .i64) (.o .sub (.o .get (.v 23) (.v 21)) (.v 28))))))) (.u .not (.o .eqb (.o .eq (.o .get (.o .get (.v 25) (.v 21)) (.n 0)) (.n 1)) (.o .or (.o .eq (.o .get (.o .get (.v 22) (.v 21)) (.n 0)) (.n 1)) (.o .and (.o .le (.n 0) (.v 29)) (.o .lt (.u (.wrap .i64) (.o .sub (.o .get (.v 23) (.v 21)) (.v 29))) (.v 27))))))) (.u .not (.o .eq (.o .get (.o .get (.v 25) (.v 21)) (.n 0)) (.n 1))))⟩,
  ⟨[dq52, dq53, dq54, dq29, dq51, dq44, dq39, dq35, dq30, dq28, dq27, dq26, dq19, dq24, dq25], (.q (.o .or (.u .not (.o .eqb (.o .eq (.o .get (.o .get (.v 24) (.v 21)) (.n 0)) (.n 1)) (.o .and (.o .eq (.o .get (.o .get (.v 22) (.v 21)) (.n 0)) (.n 1)) (.o .le (.v 27) (.u (.wrap .i64) (.o .sub (.o .get (.v 23) (.v 21)) (.v 28))))))) (.u .not (.o .eqb (.o .eq (.o .get (.o .get (.v 25) (.v 21)) (.n 0)) (.n 1)) (.o .or (.o .eq (.o .get (.o .get (.v 22) (.v 21)) (.n 0)) (.n 1)) (.o .and (.o .le (.n 0) (.v 29)) (.o .lt (.u (.wrap .i64) (.o .sub (.o .get (.v 23) (.v 21)) (.v 29))) (.v 27))))))) (.u .not (.o .eq (.o .get (.o .get (.v 25) (.v 21)) (.n 0)) (.n 1))))⟩,
  ⟨[dq48, dq49, dq50, dq31, dq51, dq44, dq39, dq35, dq30, dq28, dq27, dq26, dq19, dq24, dq25], (.q (.o .or (.u .not (.o .eqb (.o .eq (.o .get (.o .get (.v 24) (.v 21)) (.n 0)) (.n 1)) (.o .and (.o .eq (.o .get (.o .get (.v 22) (.v 21)) (.n 0)) (.n 1)) (.o .le (.v 27) (.u (.wrap .i64) (.o .sub (.o .get (.v 23) (.v 21)) (.v 28))))))) (.u .not (.o .eqb (.o .eq (.o .get (.o .get (.v 25) (.v 21)) (.n 0)) (.n 1)) (.o .or (.o .eq (.o .get (.o .get (.v 22) (.v 21)) (.n 0)) (.n 1)) (.o .and (.o .le (.n 0) (.v 29)) (.o .lt (.u (.wrap .i64) (.o .sub (.o .get (.v 23) (.v 21)) (.v 29))) (.v 27))))))) (.t true))⟩,
  ⟨[dq52, dq49, dq50, dq31, dq51, dq44, dq39, dq35, dq30, dq28, dq27, dq26, dq19, dq24, dq25], (.q (.o .or (.u .not (.o .eqb (.o .eq (.o .get (.o .get (.v 24) (.v 21)) (.n 0)) (.n 1)) (.o .and (.o .eq (.o .get (.o .get (.v 22) (.v 21)) (.n 0)) (.n 1)) (.o .le (.v 27) (.u (.wrap .i64) (.o .sub (.o .get (.v 23) (.v 21)) (.v 28))))))) (.u .not (.o .eqb (.o .eq (.o .get (.o .get (.v 25) (.v 21)) (.n 0)) (.n 1)) (.o .or (.o .eq (.o .get (.o .get (.v 22) (.v 21)) (.n 0)) (.n 1)) (.o .and (.o .le (.n 0) (.v 29)) (.o .lt (.u (.wrap .i64) (.o .sub (.o .get (.v 23) (.v 21)) (.v 29))) (.v 27))))))) (.t true))⟩,
  ⟨[dq48, dq53, dq50, dq31, dq51, dq44, dq39, dq35, dq30, dq28, dq27, dq26, dq19, dq24, dq25], (.q (.o .or (.u .not (.o .eqb (.o .eq (.o .get (.o .get (.v 24) (.v 21)) (.n 0)) (.n 1)) (.o .and (.o .eq (.o .get (.o .get (.v 22) (.v 21)) (.n 0)) (.n 1)) (.o .le (.v 27) (.u (.wrap .i64) (.o .sub (.o .get (.v 23) (.v 21)) (.v 28))))))) (.u .not (.o .eqb (.o .eq (.o .get (.o .get (.v 25) (.v 21)) (.n 0)) (.n 1)) (.o .or (.o .eq (.o .get (.o .get (.v 22) (.v 21)) (.n 0)) (.n 1)) (.o .and (.o .le (.n 0) (.v 29)) (.o .lt (.u (.wrap .i64) (.o .sub (.o .get (.v 23) (.v 21)) (.v 29))) (.v 27))))))) (.t true))⟩,
  ⟨[dq52, dq53, dq50, dq31, dq51, dq44, dq39, dq35, dq30, dq28, dq27, dq26, dq19, dq24, dq25], (.q (.o .or (.u .not (.o .eqb (.o .eq (.o .get (.o .get (.v 24) (.v 21)) (.n 0)) (.n 1)) (.o .and (.o .eq (.o .get (.o .get (.v 22) (.v 21)) (.n 0)) (.n 1)) (.o .le (.v 27) (.u (.wrap .i64) (.o .sub (.o .get (.v 23) (.v 21)) (.v 28))))))) (.u .not (.o .eqb (.o .eq (.o .get (.o .get (.v 25) (.v 21)) (.n 0)) (.n 1)) (.o .or (.o .eq (.o .get (.o .get (.v 22) (.v 21)) (.n 0)) (.n 1)) (.o .and (.o .le (.n 0) (.v 29)) (.o .lt (.u (.wrap .i64) (.o .sub (.o .get (.v 23) (.v 21)) (.v 29))) (.v 27))))))) (.t true))⟩,
  ⟨[dq48, dq49, dq54, dq31, dq51, dq44, dq39, dq35, dq30, dq28, dq27, dq26, dq19, dq24, dq25], (.q (.o .or (.u .not (.o .eqb (.o .eq (.o .get (.o .get (.v 24) (.v 21)) (.n 0)) (.n 1)) (.o .and (.o .eq (.o .get (.o .get (.v 22) (.v 21)) (.n 0)) (.n 1)) (.o .le (.v 27) (.u (.wrap .i64) (.o .sub (.o .get (.v 23) (.v 21)) (.v 28))))))) (.u .not (.o .eqb (.o .eq (.o .get (.o .get (.v 25) (.v 21)) (.n 0)) (.n 1)) (.o .or (.o .eq (.o .get (.o .get (.v 22) (.v 21)) (.n 0)) (.n 1)) (.o .and (.o .le (.n 0) (.v 29)) (.o .lt (.u (.wrap .i64) (.o .sub (.o .get (.v 23) (.v 21)) (.v 29))) (.v 27))))))) (.u .not (.o .eqb (.o .eq (.o .get (.o .get (.v 25) (.v 21)) (.n 0)) (.n 1)) (.o .lt (.u (.wrap .i64) (.o .sub (.o .get (.v 23) (.v 21)) (.v 29))) (.v 27)))))⟩,
  ⟨[dq52, dq49, dq54, dq31, dq51, dq44, dq39, dq35, dq30, dq28, dq27, dq26, dq19, dq24, dq25], (.q (.o .or (.u .not (.o .eqb (.o .eq (.o .get (.o .get (.v 24) (.v 21)) (.n 0)) (.n 1)) (.o .and (.o .eq (.o .get (.o .get (.v 22) (.v 21)) (.n 0)) (.n 1)) (.o .le (.v 27) (.u (.wrap .i64) (.o .sub (.o .get (.v 23) (.v 21)) (.v 28))))))) (.u .not (.o .eqb (.o .eq (.o .get (.o .get (.v 25) (.v 21)) (.n 0)) (.n 1)) (.o .or (.o .eq (.o .get (.o .get (.v 22) (.v 21)) (.n 0)) (.n 1)) (.o .and (.o .le (.n 0) (.v 29)) (.o .lt (.u (.wrap .i64) (.o .sub (.o .get (.v 23) (.v 21)) (.v 29))) (.v 27))))))) (.o .eq (.o .get (.o .get (.v 25) (.v 21)) (.n 0)) (.n 1)))⟩,
  ⟨[dq48, dq53, dq54, dq31, dq51, dq44, dq39, dq35, dq30, dq28, dq27, dq26, dq19, dq24, dq25], (.q (.o .or (.u .not (.o .eqb (.o .eq (.o .get (.o .get (.v 24) (.v 21)) (.n 0)) (.n 1)) (.o .and (.o .eq (.o .get (.o .get (.v 22) (.v 21)) (.n 0)) (.n 1)) (.o .le (.v 27) (.u (.wrap .i64) (.o .sub (.o .get (.v 23) (.v 21)) (.v 28))))))) (.u .not (.o .eqb (.o .eq (.o .get (.o .get (.v 25) (.v 21)) (.n 0)) (.n 1)) (.o .or (.o .eq (.o .get (.o .get (.v 22) (.v 21)) (.n 0)) (.n 1)) (.o .and (.o .le (.n 0) (.v 29)) (.o .lt (.u (.wrap .i64) (.o .sub (.o .get (.v 23) (.v 21)) (.v 29))) (.v 27))))))) (.u .not (.o .eqb (.o .eq (.o .get (.o .get (.v 25) (.v 21)) (.n 0)) (.n 1)) (.o .lt (.u (.wrap .i64) (.o .sub (.o .get (.v 23) (.v 21)) (.v 29))) (.v 27)))))⟩,
  ⟨[dq52, dq53, dq54, dq31, dq51, dq44, dq39, dq35, dq30, dq28, dq27, dq26, dq19, dq24, dq25], (.q (.o .or (.u .not (.o .eqb (.o .eq (.o .get (.o .get (.v 24) (.v 21)) (.n 0)) (.n 1)) (.o .and (.o .eq (.o .get (.o .get (.v 22) (.v 21)) (.n 0)) (.n 1)) (.o .le (.v 27) (.u (.wrap .i64) (.o .sub (.o .get (.v 23) (.v 21)) (.v 28))))))) (.u .not (.o .eqb (.o .eq (.o .get (.o .get (.v 25) (.v 21)) (.n 0)) (.n 1)) (.o .or (.o .eq (.o .get (.o .get (.v 22) (.v 21)) (.n 0)) (.n 1)) (.o .and (.o .le (.n 0) (.v 29)) (.o .lt (.u (.wrap .i64) (.o .sub (.o .get (.v 23) (.v 21)) (.v 29))) (.v 27))))))) (.o .eq (.o .get (.o .get (.v 25) (.v 21)) (.n 0)) (.n 1)))⟩,
  ⟨[dq59, dq62, dq63, dq58, dq57, dq33, dq55, dq56, dq51, dq44, dq39, dq35, dq30, dq28, dq27, dq26, dq19, dq24, dq25], (.q (.o .or (.o .and (.o .and (.o .le (.n 0) (.v 31)) (.o .lt (.u (.wrap .i64) (.o .sub (.o .get (.v 23) (.v 21)) (.v 31))) (.v 27))) (.u .not (.o .eq (.o .get (.o .get (.v 26) (.v 21)) (.n 0)) (.n 1)))) (.o .and (.o .eq (.v 31) (.n (-1))) (.u .not (.o .eq (.o .get (.o .get (.v 26) (.v 21)) (.n 0)) (.n 0))))) (.u .not (.o .eq (.o .get (.o .get (.v 26) (.v 21)) (.n 0)) (.n 0))))⟩,
  ⟨[dq64, dq62, dq63, dq58, dq57, dq33, dq55, dq56, dq51, dq44, dq39, dq35, dq30, dq28, dq27, dq26, dq19, dq24, dq25], (.q (.o .or (.o .and (.o .and (.o .le (.n 0) (.v 31)) (.o .lt (.u (.wrap .i64) (.o .sub (.o .get (.v 23) (.v 21)) (.v 31))) (.v 27))) (.u .not (.o .eq (.o .get (.o .get (.v 26) (.v 21)) (.n 0)) (.n 1)))) (.o .and (.o .eq (.v 31) (.n (-1))) (.u .not (.o .eq (.o .get (.o .get (.v 26) (.v 21)) (.n 0)) (.n 0))))) (.t false))⟩,
  ⟨[dq65, dq63, dq58, dq57, dq33, dq55, dq56, dq51, dq44, dq39, dq35, dq30, dq28, dq27, dq26, dq19, dq24, dq25], (.q (.o .or (.o .and (.o .and (.o .le (.n 0) (.v 31)) (.o .lt (.u (.wrap .i64) (.o .sub (.o .get (.v 23) (.v 21)) (.v 31))) (.v 27))) (.u .not (.o .eq (.o .get (.o .get (.v 26) (.v 21)) (.n 0)) (.n 1)))) (.o .and (.o .eq (.v 31) (.n (-1))) (.u .not (.o .eq (.o .get (.o .get (.v 26) (.v 21)) (.n 0)) (.n 0))))) (.t true))⟩,
  ⟨[dq63, dq58, dq59, dq60, dq33, dq55, dq56, dq51, dq44, dq39, dq35, dq30, dq28, dq27, dq26, dq19, dq24, dq25], (.q (.o .or (.o .and (.o .and (.o .le (.n 0) (.v 31)) (.o .lt (.u (.wrap .i64) (.o .sub (.o .get (.v 23) (.v 21)) (.v 31))) (.v 27))) (.u .not (.o .eq (.o .get (.o .get (.v 26) (.v 21)) (.n 0)) (.n 1)))) (.o .and (.o .eq (.v 31) (.n (-1))) (.u .not (.o .eq (.o .get (.o .get (.v 26) (.v 21)) (.n 0)) (.n 0))))) (.u .not (.o .eq (.o .get (.o .get (.v 26) (.v 21)) (.n 0)) (.n 0))))⟩,
  ⟨[dq64, dq60, dq33, dq55, dq56, dq51, dq44, dq39, dq35, dq30, dq28, dq27, dq26, dq19, dq24, dq25], (.q (.o .or (.o .and (.o .and (.o .le (.n 0) (.v 31)) (.o .lt (.u (.wrap .i64) (.o .sub (.o .get (.v 23) (.v 21)) (.v 31))) (.v 27))) (.u .not (.o .eq (.o .get (.o .get (.v 26) (.v 21)) (.n 0)) (.n 1)))) (.o .and (.o .eq (.v 31) (.n (-1))) (.u .not (.o .eq (.o .get (.o .get (.v 26) (.v 21)) (.n 0)) (.n 0))))) (.t false))⟩,
  ⟨[dq63, dq58, dq59, dq61, dq56, dq51, dq44, dq39, dq35, dq30, dq28, dq27, dq26, dq19, dq24, dq25], (.q (.o .or (.o .and (.o .and (.o .le (.n 0) (.v 31)) (.o .lt (.u (.wrap .i64) (.o .sub (.o .get (.v 23) (.v 21)) (.v 31))) (.v 27))) (.u .not (.o .eq (.o .get (.o .get (.v 26) (.v 21)) (.n 0)) (.n 1)))) (.o .and (.o .eq (.v 31) (.n (-1))) (.u .not (.o .eq (.o .get (.o .get (.v 26) (.v 21)) (.n 0)) (.n 0))))) (.u .not (.o .eq (.o .get (.o .get (.v 26) (.v 21)) (.n 0)) (.n 0))))⟩,
  ⟨[dq64, dq61, dq56, dq51, dq44, dq39, dq35, dq30, dq28, dq27, dq26, dq19, dq24, dq25], (.q (.o .or (.o .and (.o .and (.o .le (.n 0) (.v 31)) (.o .lt (.u (.wrap .i64) (.o .sub (.o .get (.v 23) (.v 21)) (.v 31))) (.v 27))) (.u .not (.o .eq (.o .get (.o .get (.v 26) (.v 21)) (.n 0)) (.n 1)))) (.o .and (.o .eq (.v 31) (.n (-1))) (.u .not (.o .eq (.o .get (.o .get (.v 26) (.v 21)) (.n 0)) (.n 0))))) (.t false))⟩]
theorem dg_8_ok (w : World) : ∀ o ∈ dg_8, o.ok ⟨w, IDl⟩ := by
  simp only [dg_8, List.forall_mem_cons, List.not_mem_nil, false_implies, implies_true, and_true]
  refine ⟨?_, ?_, ?_, ?_, ?_, ?_, ?_, ?_, ?_, ?_, ?_, ?_, ?_, ?_, ?_, ?_, ?_, ?_, ?_, ?_, ?_, ?_, ?_⟩
  all_goals
    intro ρ hf hp hfs
    have h24 := dl24 hp (hfs dq24 (by simp))
    have hlt := dllt (hfs dq26 (by simp))
    have u28 := hfs dq35 (by simp)
    have u29 := hfs dq39 (by simp)
    have u30 := hfs dq44 (by simp)
    have u31 := hfs dq51 (by simp)
    clear hf hp
    simp only [dq35, dq39, dq44, dq51, Fact.ok, X.den, den_not, den_b2i, den_wrap, den_get, den_lt, den_le, den_eq, den_eqb, den_sub, den_len, den_or, den_and, den_cnd, asB_b, asI_i, asL_l, w64_def, Int.toNat_zero, den_addite] at u28 u29 u30 u31
    try simp only [den_add, asI_i, asI_cnd] at u28 u29 u30 u31
    simp only [ieq, ile, ilt, Bool.cond_eq_ite] at u28 u29 u30 u31
    have i28 := congrArg U.asI u28
    rw [asI_i] at i28
    have t28 : ρ.v 28 = .i (ρ.v 28).asI := by rw [u28]; rfl
    have i29 := congrArg U.asI u29
    rw [asI_i] at i29
    have t29 : ρ.v 29 = .i (ρ.v 29).asI := by rw [u29]; rfl
    have i30 := congrArg U.asI u30
    rw [asI_i] at i30
    have t30 : ρ.v 30 = .i (ρ.v 30).asI := by rw [u30]; rfl
    have i31 := congrArg U.asI u31
    rw [asI_i] at i31
    have t31 : ρ.v 31 = .i (ρ.v 31).asI := by rw [u31]; rfl
    simp only [List.forall_mem_cons, List.not_mem_nil, false_implies, implies_true, and_true, dq19, dq24, dq25, dq26, dq27, dq28, dq29, dq30, dq31, dq33, dq35, dq39, dq44, dq48, dq49, dq50, dq51, dq52, dq53, dq54, dq55, dq56, dq57, dq58, dq59, dq60, dq61, dq62, dq63, dq64, dq65, Fact.ok, X.den, den_not, den_b2i, den_wrap, den_get, den_lt, den_le, den_eq, den_eqb, den_sub, den_len, den_or, den_and, den_cnd, asB_b, asI_i, asL_l, w64_def, Int.toNat_zero, den_addite] at hfs
    try simp only [den_add, asI_i, asI_cnd] at hfs
    try simp only [ieq, ile, ilt, decide_eq_true_eq, Bool.cond_eq_ite] at hfs
    obtain ⟨l1, l2, l3, l4, l5, k1, k2, k3, k4, n0, n1, n2, hv, b1, b2, b3, b4, b5, b6⟩ := del_round h24 hlt
    have su := h24.su
    have gu := h24.gu
    have qu := h24.qu
    have wu := h24.wu
    have ii := h24.ii
    have nn := h24.nn
    have p0 := h24.inp.p0
    simp only [Fact.ok, X.den, den_not, den_b2i, den_wrap, den_get, den_lt, den_le, den_eq, den_eqb, den_sub, den_len, den_or, den_and, den_cnd, asB_b, asI_i, asL_l, w64_def, Int.toNat_zero, den_addite]
    try simp only [den_add, asI_i, asI_cnd]
    try simp only [ieq, ile, ilt, Bool.cond_eq_ite]
    clear h24 hv l1 l2 l3 l4 l5
    generalize (ρ.v 22).asL.getD (ρ.v 21).asI.toNat default = rowU at *
    generalize (ρ.v 23).asL.getD (ρ.v 21).asI.toNat default = nowU at *
    generalize (ρ.v 24).asL.getD (ρ.v 21).asI.toNat default = aU at *
    generalize (ρ.v 25).asL.getD (ρ.v 21).asI.toNat default = bU at *
    generalize (ρ.v 26).asL.getD (ρ.v 21).asI.toNat default = cU at *
    try rw [wu]
    refine congrArg U.b ?_
    try simp only [asB_b]
    rw [Bool.eq_iff_iff]
    simp only [Bool.not_eq_true', Bool.or_eq_true, Bool.and_eq_true, decide_eq_true_eq, decide_eq_false_iff_not, beq_iff_eq, Bool.or_eq_false_iff, Bool.and_eq_false_imp, beq_eq_false_iff_ne, ne_eq, reduceCtorEq] at *
    grind
def dg_9 : List Obl := [⟨[dq66, dq67, dq56, dq51, dq44, dq39, dq35, dq30, dq28, dq27, dq26, dq19, dq24, dq25], (.x (.o .le (.n 0) (.o .sub (.v 7) (.u (.wrap .i64) (.o .add (.v 21) (.n 1))))))⟩,
  ⟨[dq66, dq67, dq56, dq51, dq44, dq39, dq35, dq30, dq28, dq27, dq26, dq19, dq24, dq25], (.x (.o .lt (.o .sub (.v 7) (.u (.wrap .i64) (.o .add (.v 21) (.n 1)))) (.o .sub (.v 7) (.v 21))))⟩,
  ⟨[dq66, dq67, dq56, dq51, dq44, dq39, dq35, dq30, dq28, dq27, dq26, dq19, dq24, dq25], (.x (.o .lt (.n (-1)) (.u (.wrap .i64) (.o .add (.v 21) (.n 1)))))⟩]
theorem dg_9_ok (w : World) : ∀ o ∈ dg_9, o.ok ⟨w, IDl⟩ := by
  simp only [dg_9, List.forall_mem_cons, List.not_mem_nil, false_implies, implies_true, and_true]
  refine ⟨?_, ?_, ?_⟩
  all_goals
    intro ρ hf hp hfs
    have h24 := dl24 hp (hfs dq24 (by simp))
    have hlt := dllt (hfs dq26 (by simp))
    have u28 := hfs dq35 (by simp)
    have u29 := hfs dq39 (by simp)
    have u30 := hfs dq44 (by simp)
    have u31 := hfs dq51 (by simp)
    clear hf hp
    simp only [dq35, dq39, dq44, dq51, Fact.ok, X.den, den_not, den_b2i, den_wrap, den_get, den_lt, den_le, den_eq, den_eqb, den_sub, den_len, den_or, den_and, den_cnd, asB_b, asI_i, asL_l, w64_def, Int.toNat_zero, den_addite] at u28 u29 u30 u31
    try simp only [den_add, asI_i, asI_cnd] at u28 u29 u30 u31
    simp only [ieq, ile, ilt, Bool.cond_eq_ite] at u28 u29 u30 u31
    have i28 := congrArg U.asI u28
    rw [asI_i] at i28
    have t28 : ρ.v 28 = .i (ρ.v 28).asI := by rw [u28]; rfl
    have i29 := congrArg U.asI u29
    rw [asI_i] at i29
    have t29 : ρ.v 29 = .i (ρ.v 29).asI := by rw [u29]; rfl
    have i30 := congrArg U.asI u30
    rw [asI_i] at i30
    have t30 : ρ.v 30 = .i (ρ.v 30).asI := by rw [u30]; rfl
    have i31 := congrArg U.asI u31
    rw [asI_i] at i31
    have t31 : ρ.v 31 = .i (ρ.v 31).asI := by rw [u31]; rfl
    clear hfs
    obtain ⟨l1, l2, l3, l4, l5, k1, k2, k3, k4, n0, n1, n2, hv, b1, b2, b3, b4, b5, b6⟩ := del_round h24 hlt
    have su := h24.su
    have gu := h24.gu
    have qu := h24.qu
    have wu := h24.wu
    have ii := h24.ii
    have nn := h24.nn
    have p0 := h24.inp.p0
    simp only [Fact.ok, X.den, den_not, den_b2i, den_wrap, den_get, den_lt, den_le, den_eq, den_eqb, den_sub, den_len, den_or, den_and, den_cnd, asB_b, asI_i, asL_l, w64_def, Int.toNat_zero, den_addite]
    try simp only [den_add, asI_i, asI_cnd]
    try simp only [ieq, ile, ilt, Bool.cond_eq_ite]
    clear hv b1 b2 b3 b4 b5 b6 su gu qu wu
    have w1 : w64 ((ρ.v 21).asI + 1) = (ρ.v 21).asI + 1 := w64_id (by omega) (by omega)
    rw [w1]
    try simp only [decide_eq_true_eq]
    omega
def dg_10 : List Obl := [⟨[dq66, dq67, dq56, dq51, dq44, dq39, dq35, dq30, dq28, dq27, dq26, dq19, dq24, dq25], (.p 24 [(.v 22), (.v 23), (.v 24), (.v 25), (.v 26), (.v 7), (.v 27), (.u (.wrap .i64) (.o .add (.v 21) (.n 1))), (.v 28), (.v 29), (.v 31), (.o .eq (.o .get (.o .get (.v 22) (.v 21)) (.n 0)) (.n 1))])⟩]
theorem dg_10_ok (w : World) : ∀ o ∈ dg_10, o.ok ⟨w, IDl⟩ := by
  simp only [dg_10, List.forall_mem_cons, List.not_mem_nil, false_implies, implies_true, and_true]
  all_goals
    intro ρ hf hp hfs
    have h24 := dl24 hp (hfs dq24 (by simp))
    have hlt := dllt (hfs dq26 (by simp))
    have u28 := hfs dq35 (by simp)
    have u29 := hfs dq39 (by simp)
    have u30 := hfs dq44 (by simp)
    have u31 := hfs dq51 (by simp)
    have hP : ∀ l, ρ.p 24 l = pD 24 l := fun l => by rw [hp]; rfl
    clear hf hp
    simp only [dq35, dq39, dq44, dq51, Fact.ok, X.den, den_not, den_b2i, den_wrap, den_get, den_lt, den_le, den_eq, den_eqb, den_sub, den_len, den_or, den_and, den_cnd, asB_b, asI_i, asL_l, w64_def, Int.toNat_zero, den_addite] at u28 u29 u30 u31
    try simp only [den_add, asI_i, asI_cnd] at u28 u29 u30 u31
    simp only [ieq, ile, ilt, Bool.cond_eq_ite] at u28 u29 u30 u31
    have i28 := congrArg U.asI u28
    rw [asI_i] at i28
    have t28 : ρ.v 28 = .i (ρ.v 28).asI := by rw [u28]; rfl
    have i29 := congrArg U.asI u29
    rw [asI_i] at i29
    have t29 : ρ.v 29 = .i (ρ.v 29).asI := by rw [u29]; rfl
    have i30 := congrArg U.asI u30
    rw [asI_i] at i30
    have t30 : ρ.v 30 = .i (ρ.v 30).asI := by rw [u30]; rfl
    have i31 := congrArg U.asI u31
    rw [asI_i] at i31
    have t31 : ρ.v 31 = .i (ρ.v 31).asI := by rw [u31]; rfl
    simp only [List.forall_mem_cons, List.not_mem_nil, false_implies, implies_true, and_true, dq19, dq24, dq25, dq26, dq27, dq28, dq30, dq35, dq39, dq44, dq51, dq56, dq66, dq67, Fact.ok, X.den, den_not, den_b2i, den_wrap, den_get, den_lt, den_le, den_eq, den_eqb, den_sub, den_len, den_or, den_and, den_cnd, asB_b, asI_i, asL_l, w64_def, Int.toNat_zero, den_addite] at hfs
    try simp only [den_add, asI_i, asI_cnd] at hfs
    try simp only [ieq, ile, ilt, decide_eq_true_eq, Bool.cond_eq_ite] at hfs
    obtain ⟨l1, l2, l3, l4, l5, k1, k2, k3, k4, n0, n1, n2, hv, b1, b2, b3, b4, b5, b6⟩ := del_round h24 hlt
    have su := h24.su
    have gu := h24.gu
    have qu := h24.qu
    have wu := h24.wu
    have ii := h24.ii
    have nn := h24.nn
    have p0 := h24.inp.p0
    simp only [Fact.ok, hP, List.map_cons, List.map_nil, X.den, den_not, den_b2i, den_wrap, den_get, den_lt, den_le, den_eq, den_eqb, den_sub, den_len, den_or, den_and, den_cnd, asB_b, asI_i, asL_l, w64_def, Int.toNat_zero]
    have e1 : onB (ρ.v 22).asL (ρ.v 21).asI.toNat = decide ((((ρ.v 22).asL.getD (ρ.v 21).asI.toNat default).asL.getD 0 default).asI = 1) := rfl
    have hnx := fun s' g' q' w' i' => @del_next _ _ _ _ _ _ _ _ _ _ _ _ s' g' q' w' i' h24 hlt
    simp only [e1] at hnx
    simp only [refStep] at hnx
    clear hv e1
    clear h24 l1 l2 l3 l4 l5
    generalize (ρ.v 22).asL.getD (ρ.v 21).asI.toNat default = rowU at *
    generalize (ρ.v 23).asL.getD (ρ.v 21).asI.toNat default = nowU at *
    generalize (ρ.v 24).asL.getD (ρ.v 21).asI.toNat default = aU at *
    generalize (ρ.v 25).asL.getD (ρ.v 21).asI.toNat default = bU at *
    generalize (ρ.v 26).asL.getD (ρ.v 21).asI.toNat default = cU at *
    have c28 : -1 ≤ (ρ.v 28).asI ∧ (ρ.v 28).asI ≤ 2000 := by (try clear hv); rw [i28]; split <;> omega
    have c29 : -1 ≤ (ρ.v 29).asI ∧ (ρ.v 29).asI ≤ 2000 := by (try clear hv); rw [i29]; split <;> omega
    have c30 : -2 ≤ (ρ.v 30).asI ∧ (ρ.v 30).asI ≤ 2000 := by (try clear hv); rw [i30]; split <;> (try split) <;> omega
    have c31 : -2 ≤ (ρ.v 31).asI ∧ (ρ.v 31).asI ≤ 2000 := by (try clear hv); rw [i31]; split <;> omega
    have w19 : w64 (nowU.asI - (ρ.v 19).asI) = nowU.asI - (ρ.v 19).asI := by (try clear hv); exact w64_id (by omega) (by omega)
    have w28 : w64 (nowU.asI - (ρ.v 28).asI) = nowU.asI - (ρ.v 28).asI := by (try clear hv); exact w64_id (by omega) (by omega)
    have w29 : w64 (nowU.asI - (ρ.v 29).asI) = nowU.asI - (ρ.v 29).asI := by (try clear hv); exact w64_id (by omega) (by omega)
    have w31 : w64 (nowU.asI - (ρ.v 31).asI) = nowU.asI - (ρ.v 31).asI := by (try clear hv); exact w64_id (by omega) (by omega)
    simp only [w19, w28, w29, w31] at *
    refine hnx _ _ _ _ _ ?_ ?_ ?_ t28 t29 t31 rfl
    · simp only [den_add, asI_i]
      exact w64_id (by omega) (by omega)
    · clear hnx
      simp only [asB_b, ieq, Rs.mk.injEq]
      refine ⟨?_, ?_, ?_, trivial⟩
      · rw [i28]
      · rw [i29]
      · rw [i31, i30]; grind
    · clear hnx
      grind
def dg_11 : List Obl := [⟨[dq69, dq51, dq44, dq39, dq35, dq30, dq28, dq27, dq26, dq19, dq24, dq25], (.q (.t true) (.t false))⟩,
  ⟨[dq70, dq56, dq51, dq44, dq39, dq35, dq30, dq28, dq27, dq26, dq19, dq24, dq25], (.q (.t true) (.t false))⟩]
theorem dg_11_ok (w : World) : ∀ o ∈ dg_11, o.ok ⟨w, IDl⟩ := by
  simp only [dg_11, List.forall_mem_cons, List.not_mem_nil, false_implies, implies_true, and_true]
  refine ⟨?_, ?_⟩
  all_goals
    intro ρ hf hp hfs
    have h24 := dl24 hp (hfs dq24 (by simp))
    have hlt := dllt (hfs dq26 (by simp))
    have u28 := hfs dq35 (by simp)
    have u29 := hfs dq39 (by simp)
    have u30 := hfs dq44 (by simp)
    have u31 := hfs dq51 (by simp)
    clear hf hp
    simp only [dq35, dq39, dq44, dq51, Fact.ok, X.den, den_not, den_b2i, den_wrap, den_get, den_lt, den_le, den_eq, den_eqb, den_sub, den_len, den_or, den_and, den_cnd, asB_b, asI_i, asL_l, w64_def, Int.toNat_zero, den_addite] at u28 u29 u30 u31
    try simp only [den_add, asI_i, asI_cnd] at u28 u29 u30 u31
    simp only [ieq, ile, ilt, Bool.cond_eq_ite] at u28 u29 u30 u31
    have i28 := congrArg U.asI u28
    rw [asI_i] at i28
    have t28 : ρ.v 28 = .i (ρ.v 28).asI := by rw [u28]; rfl
    have i29 := congrArg U.asI u29
    rw [asI_i] at i29
    have t29 : ρ.v 29 = .i (ρ.v 29).asI := by rw [u29]; rfl
    have i30 := congrArg U.asI u30
    rw [asI_i] at i30
    have t30 : ρ.v 30 = .i (ρ.v 30).asI := by rw [u30]; rfl
    have i31 := congrArg U.asI u31
    rw [asI_i] at i31
    have t31 : ρ.v 31 = .i (ρ.v 31).asI := by rw [u31]; rfl
    simp only [List.forall_mem_cons, List.not_mem_nil, false_implies, implies_true, and_true, dq19, dq24, dq25, dq26, dq27, dq28, dq30, dq35, dq39, dq44, dq51, dq56, dq69, dq70, Fact.ok, X.den, den_not, den_b2i, den_wrap, den_get, den_lt, den_le, den_eq, den_eqb, den_sub, den_len, den_or, den_and, den_cnd, asB_b, asI_i, asL_l, w64_def, Int.toNat_zero, den_addite] at hfs
    try simp only [den_add, asI_i, asI_cnd] at hfs
    try simp only [ieq, ile, ilt, decide_eq_true_eq, Bool.cond_eq_ite] at hfs
    obtain ⟨l1, l2, l3, l4, l5, k1, k2, k3, k4, n0, n1, n2, hv, b1, b2, b3, b4, b5, b6⟩ := del_round h24 hlt
    have su := h24.su
    have gu := h24.gu
    have qu := h24.qu
    have wu := h24.wu
    have ii := h24.ii
    have nn := h24.nn
    have p0 := h24.inp.p0
    simp only [Fact.ok, X.den, den_not, den_b2i, den_wrap, den_get, den_lt, den_le, den_eq, den_eqb, den_sub, den_len, den_or, den_and, den_cnd, asB_b, asI_i, asL_l, w64_def, Int.toNat_zero, den_addite]
    try simp only [den_add, asI_i, asI_cnd]
    try simp only [ieq, ile, ilt, Bool.cond_eq_ite]
    simp only [refStep] at hv
    clear h24 l1 l2 l3 l4 l5
    generalize (ρ.v 22).asL.getD (ρ.v 21).asI.toNat default = rowU at *
    generalize (ρ.v 23).asL.getD (ρ.v 21).asI.toNat default = nowU at *
    generalize (ρ.v 24).asL.getD (ρ.v 21).asI.toNat default = aU at *
    generalize (ρ.v 25).asL.getD (ρ.v 21).asI.toNat default = bU at *
    generalize (ρ.v 26).asL.getD (ρ.v 21).asI.toNat default = cU at *
    have c28 : -1 ≤ (ρ.v 28).asI ∧ (ρ.v 28).asI ≤ 2000 := by (try clear hv); rw [i28]; split <;> omega
    have c29 : -1 ≤ (ρ.v 29).asI ∧ (ρ.v 29).asI ≤ 2000 := by (try clear hv); rw [i29]; split <;> omega
    have c30 : -2 ≤ (ρ.v 30).asI ∧ (ρ.v 30).asI ≤ 2000 := by (try clear hv); rw [i30]; split <;> (try split) <;> omega
    have c31 : -2 ≤ (ρ.v 31).asI ∧ (ρ.v 31).asI ≤ 2000 := by (try clear hv); rw [i31]; split <;> omega
    have w19 : w64 (nowU.asI - (ρ.v 19).asI) = nowU.asI - (ρ.v 19).asI := by (try clear hv); exact w64_id (by omega) (by omega)
    have w28 : w64 (nowU.asI - (ρ.v 28).asI) = nowU.asI - (ρ.v 28).asI := by (try clear hv); exact w64_id (by omega) (by omega)
    have w29 : w64 (nowU.asI - (ρ.v 29).asI) = nowU.asI - (ρ.v 29).asI := by (try clear hv); exact w64_id (by omega) (by omega)
    have w31 : w64 (nowU.asI - (ρ.v 31).asI) = nowU.asI - (ρ.v 31).asI := by (try clear hv); exact w64_id (by omega) (by omega)
    simp only [w19, w28, w29, w31] at *
    obtain ⟨v, hv1, hv2, hv3, hv4, hv5⟩ := hv
    subst hv2
    exfalso
    clear su gu qu u28 u29 u30 u31 t28 t29 t30 t31 k1 k2 k3 k4 n0
    grind
end Go.Proofs.YtkphkjffcpkhjaaDoor
end
/-! FbDelays: its contracts hold. -/
noncomputable section
set_option linter.unusedSimpArgs false
set_option linter.unusedVariables false
namespace Go.SE
theorem fbD_4 (u : List U) : fbD 4 u = fbF 4 u := by simp only [fbD]
end Go.SE
namespace Go.Proofs.YtkphkjffcpkhjaaDoor
open Go Go.SE
set_option maxRecDepth 1000000
def cNC : Ctx := ctxOf [] lpNums
def numsCC_ob : List Obl := [⟨[(.x (.o .eq (.u .len (.v 0)) (.n 2)))], (.x (.o .lt (.n 0) (.u .len (.v 0))))⟩,
  ⟨[(.x (.o .eq (.u .len (.v 0)) (.n 2)))], (.x (.o .lt (.n 1) (.u .len (.v 0))))⟩]
theorem numsCC_run : runAny cNC 100 18 numsCC = some numsCC_ob := by kernel_rfl
theorem numsCC_ok {I : Interp} : CtrOk Tryd.prog I 18 numsCC := .any (ctx_ok (fun q hq => by cases hq)) (by kernel_rfl) numsCC_run fun w => by
  unfold numsCC_ob
  simp only [List.forall_mem_cons, List.not_mem_nil, false_implies, implies_true, and_true]
  constructor <;>
  · intro ρ hf hp hfs
    simp only [List.forall_mem_cons, List.not_mem_nil, false_implies, implies_true, and_true, Fact.ok, X.den, den_eq, den_lt, den_len, asB_b, asI_i, ieq_iff, ilt_iff] at hfs ⊢
    omega
theorem bookLi_ok : BookOk Tryd.prog IDl bookLi := by
  intro q hq
  simp only [bookLi, List.mem_cons, List.not_mem_nil, or_false] at hq
  rcases hq with rfl | rfl | rfl
  · simp only [List.forall_mem_cons, List.not_mem_nil, false_implies, implies_true, and_true]
    exact numsCC_ok
  · simp only [stepKs, List.cons_append, List.nil_append, List.forall_mem_cons, List.not_mem_nil, false_implies, implies_true, and_true]
    exact ⟨ton_ff_ok fbD_1, ton_ft_ok fbD_1, ton_tf_ok fbD_1, ton_tt_ok fbD_1, tof_ff_ok fbD_2, tof_ft_ok fbD_2, tof_tf_ok fbD_2, tof_tt_ok fbD_2, tp_ff_ok fbD_3, tp_ft_ok fbD_3, tp_tf_ok fbD_3, tp_tt_ok fbD_3⟩
  · simp only [List.forall_mem_cons, List.not_mem_nil, false_implies, implies_true, and_true]
    exact ⟨rf_ton_f_ok, rf_ton_t_ok, rf_tof_f_ok, rf_tof_t_ok, rf_tp_f_ok, rf_tp_t_ok⟩
theorem li_ton_ok : CtrOk Tryd.prog IDl 13 (livesK sTON 35) := .any (ctx_ok bookLi_ok) (by kernel_rfl) li_ton_run fun w => li_ton_all w
theorem ln_ton_ok : CtrOk Tryd.prog IDl 13 (livesNil sTON) := allAny_ok (C := cLi 1) (l := [livesNil sTON]) (f := 100) (ctx_ok bookLi_ok) (by kernel_rfl) (by kernel_rfl) _ List.mem_cons_self
theorem li_tof_ok : CtrOk Tryd.prog IDl 13 (livesK sTOF 36) := .any (ctx_ok bookLi_ok) (by kernel_rfl) li_tof_run fun w => li_tof_all w
theorem ln_tof_ok : CtrOk Tryd.prog IDl 13 (livesNil sTOF) := allAny_ok (C := cLi 2) (l := [livesNil sTOF]) (f := 100) (ctx_ok bookLi_ok) (by kernel_rfl) (by kernel_rfl) _ List.mem_cons_self
theorem li_tp_ok : CtrOk Tryd.prog IDl 13 (livesK sTP 37) := .any (ctx_ok bookLi_ok) (by kernel_rfl) li_tp_run fun w => li_tp_all w
theorem ln_tp_ok : CtrOk Tryd.prog IDl 13 (livesNil sTP) := allAny_ok (C := cLi 3) (l := [livesNil sTP]) (f := 100) (ctx_ok bookLi_ok) (by kernel_rfl) (by kernel_rfl) _ List.mem_cons_self
theorem knownD_chk : chkOne fbD cN 100 12 knownK (knownK.outs.headD (.nilp, knownK.h)) = true := by kernel_rfl
theorem knownD_ok : CtrOk Tryd.prog IDl 12 knownK := .chk (ctx_ok (bookN_ok fbD_1 fbD_4)) (by kernel_rfl) knownD_chk rfl List.mem_cons_self
theorem bookDl_ok : BookOk Tryd.prog IDl bookDl := by
  intro q hq
  simp only [bookDl, List.mem_cons, List.not_mem_nil, or_false] at hq
  rcases hq with rfl | rfl
  · simp only [List.forall_mem_cons, List.not_mem_nil, false_implies, implies_true, and_true]
    exact knownD_ok
  · simp only [List.forall_mem_cons, List.not_mem_nil, false_implies, implies_true, and_true]
    exact ⟨li_ton_ok, li_tof_ok, li_tp_ok, ln_ton_ok, ln_tof_ok, ln_tp_ok⟩
def cDl : Ctx := ctxS bookDl lpDel (jnDel kpOf) spDel
def del_false_false_ob : List Obl := [⟨[dq0, dq1, dq2, dq3, dq4, dq5], (.q (.o .add (.c .ite (.o .get (.v 0) (.n 0)) (.n 1) (.n 0)) (.n 0)) (.n 1))⟩,
  ⟨[dq6, dq1, dq2, dq3, dq4, dq5], (.q (.o .add (.c .ite (.o .get (.v 0) (.n 0)) (.n 1) (.n 0)) (.n 0)) (.n 0))⟩,
  ⟨[dq7, dq8, dq1, dq2, dq3, dq4, dq5], (.q (.u (.f 42) (.o .cons (.v 1) (.o .cons (.n 1) .nil))) (.o .cons (.u (.wrap .i64) (.o .add (.n 0) (.u (.wrap .i64) (.o .rem (.o .get (.v 1) (.n 0)) (.n 16))))) .nil))⟩,
  ⟨[dq7, dq8, dq1, dq2, dq3, dq4, dq5], (.q (.u (.f 41) (.o .cons (.v 0) (.o .cons (.v 4) (.o .cons (.n 1) .nil)))) (.o .cons (.o .cons (.o .add (.c .ite (.o .get (.v 0) (.n 0)) (.n 1) (.n 0)) (.n 0)) (.o .cons (.u (.wrap .i64) (.o .rem (.v 4) (.n 40))) .nil)) .nil))⟩,
  ⟨[dq7, dq8, dq1, dq2, dq3, dq4, dq5], (.x (.o .le (.n 1) (.u .len (.v 0))))⟩,
  ⟨[dq7, dq8, dq1, dq2, dq3, dq4, dq5], (.x (.o .le (.n 1) (.u .len (.v 1))))⟩,
  ⟨[dq7, dq8, dq1, dq2, dq3, dq4, dq5], (.q (.u (.f 43) (.o .cons (.v 1) (.o .cons (.n 1) .nil))) (.u (.wrap .i64) (.o .add (.n 0) (.u (.wrap .i64) (.o .rem (.o .get (.v 1) (.n 0)) (.n 16))))))⟩,
  ⟨[dq9, dq10, dq11, dq12, dq13, dq14, dq15, dq16, dq17, dq7, dq8, dq1, dq2, dq3, dq4, dq5], (.x (.o .le (.n 0) (.v 7)))⟩,
  ⟨[dq18, dq19, dq9, dq10, dq11, dq12, dq13, dq14, dq15, dq16, dq17, dq7, dq8, dq1, dq2, dq3, dq4, dq5], (.q (.o .add (.c .ite (.o .get (.v 0) (.v 7)) (.n 1) (.n 0)) (.n 0)) (.n 1))⟩,
  ⟨[dq20, dq19, dq9, dq10, dq11, dq12, dq13, dq14, dq15, dq16, dq17, dq7, dq8, dq1, dq2, dq3, dq4, dq5], (.q (.o .add (.c .ite (.o .get (.v 0) (.v 7)) (.n 1) (.n 0)) (.n 0)) (.n 0))⟩,
  ⟨[dq19, dq9, dq10, dq11, dq12, dq13, dq14, dq15, dq16, dq17, dq7, dq8, dq1, dq2, dq3, dq4, dq5], (.x (.o .le (.v 7) (.u .len (.u (.f 41) (.o .cons (.v 0) (.o .cons (.v 4) (.o .cons (.v 7) .nil)))))))⟩,
  ⟨[dq19, dq9, dq10, dq11, dq12, dq13, dq14, dq15, dq16, dq17, dq7, dq8, dq1, dq2, dq3, dq4, dq5], (.x (.o .le (.v 7) (.u .len (.v 10))))⟩,
  ⟨[dq19, dq9, dq10, dq11, dq12, dq13, dq14, dq15, dq16, dq17, dq7, dq8, dq1, dq2, dq3, dq4, dq5], (.x (.o .le (.o .mul (.o .add (.v 7) (.n 1)) (.n 24)) (.n 140737488355328)))⟩,
  ⟨[dq19, dq9, dq10, dq11, dq12, dq13, dq14, dq15, dq16, dq17, dq7, dq8, dq1, dq2, dq3, dq4, dq5], (.x (.o .le (.o .add (.v 7) (.n 1)) (.n 9223372036854775807)))⟩,
  ⟨[dq21, dq19, dq9, dq10, dq11, dq12, dq13, dq14, dq15, dq16, dq17, dq7, dq8, dq1, dq2, dq3, dq4, dq5], (.x (.o .le (.v 7) (.u .len (.u (.f 42) (.o .cons (.v 1) (.o .cons (.v 7) .nil))))))⟩,
  ⟨[dq21, dq19, dq9, dq10, dq11, dq12, dq13, dq14, dq15, dq16, dq17, dq7, dq8, dq1, dq2, dq3, dq4, dq5], (.x (.o .le (.o .mul (.o .add (.v 7) (.n 1)) (.n 8)) (.n 140737488355328)))⟩,
  ⟨[dq22, dq21, dq19, dq9, dq10, dq11, dq12, dq13, dq14, dq15, dq16, dq17, dq7, dq8, dq1, dq2, dq3, dq4, dq5], (.x (.o .le (.n 0) (.o .sub (.u .len (.v 0)) (.u (.wrap .i64) (.o .add (.v 7) (.n 1))))))⟩,
  ⟨[dq22, dq21, dq19, dq9, dq10, dq11, dq12, dq13, dq14, dq15, dq16, dq17, dq7, dq8, dq1, dq2, dq3, dq4, dq5], (.x (.o .lt (.o .sub (.u .len (.v 0)) (.u (.wrap .i64) (.o .add (.v 7) (.n 1)))) (.o .sub (.u .len (.v 0)) (.v 7))))⟩,
  ⟨[dq22, dq21, dq19, dq9, dq10, dq11, dq12, dq13, dq14, dq15, dq16, dq17, dq7, dq8, dq1, dq2, dq3, dq4, dq5], (.q (.u (.f 42) (.o .cons (.v 1) (.o .cons (.u (.wrap .i64) (.o .add (.v 7) (.n 1))) .nil))) (.o .snoc (.o .take (.v 7) (.u (.f 42) (.o .cons (.v 1) (.o .cons (.v 7) .nil)))) (.u (.wrap .i64) (.o .add (.u (.f 43) (.o .cons (.v 1) (.o .cons (.v 7) .nil))) (.u (.wrap .i64) (.o .rem (.o .get (.v 1) (.v 7)) (.n 16)))))))⟩,
  ⟨[dq22, dq21, dq19, dq9, dq10, dq11, dq12, dq13, dq14, dq15, dq16, dq17, dq7, dq8, dq1, dq2, dq3, dq4, dq5], (.q (.u (.f 41) (.o .cons (.v 0) (.o .cons (.v 4) (.o .cons (.u (.wrap .i64) (.o .add (.v 7) (.n 1))) .nil)))) (.o .snoc (.o .take (.v 7) (.u (.f 41) (.o .cons (.v 0) (.o .cons (.v 4) (.o .cons (.v 7) .nil))))) (.o .cons (.o .add (.c .ite (.o .get (.v 0) (.v 7)) (.n 1) (.n 0)) (.n 0)) (.o .cons (.u (.wrap .i64) (.o .rem (.v 4) (.n 40))) .nil))))⟩,
  ⟨[dq22, dq21, dq19, dq9, dq10, dq11, dq12, dq13, dq14, dq15, dq16, dq17, dq7, dq8, dq1, dq2, dq3, dq4, dq5], (.x (.o .lt (.n 0) (.u (.wrap .i64) (.o .add (.v 7) (.n 1)))))⟩,
  ⟨[dq22, dq21, dq19, dq9, dq10, dq11, dq12, dq13, dq14, dq15, dq16, dq17, dq7, dq8, dq1, dq2, dq3, dq4, dq5], (.q (.u (.wrap .i64) (.o .add (.v 7) (.n 1))) (.o .add (.u (.wrap .i64) (.o .add (.v 7) (.n 1))) (.n 0)))⟩,
  ⟨[dq22, dq21, dq19, dq9, dq10, dq11, dq12, dq13, dq14, dq15, dq16, dq17, dq7, dq8, dq1, dq2, dq3, dq4, dq5], (.x (.o .le (.u (.wrap .i64) (.o .add (.v 7) (.n 1))) (.u .len (.v 0))))⟩,
  ⟨[dq22, dq21, dq19, dq9, dq10, dq11, dq12, dq13, dq14, dq15, dq16, dq17, dq7, dq8, dq1, dq2, dq3, dq4, dq5], (.x (.o .le (.u (.wrap .i64) (.o .add (.v 7) (.n 1))) (.u .len (.v 1))))⟩,
  ⟨[dq22, dq21, dq19, dq9, dq10, dq11, dq12, dq13, dq14, dq15, dq16, dq17, dq7, dq8, dq1, dq2, dq3, dq4, dq5], (.x (.o .le (.u (.wrap .i64) (.o .add (.v 7) (.n 1))) (.v 11)))⟩,
  ⟨[dq22, dq21, dq19, dq9, dq10, dq11, dq12, dq13, dq14, dq15, dq16, dq17, dq7, dq8, dq1, dq2, dq3, dq4, dq5], (.x (.o .le (.u (.wrap .i64) (.o .add (.v 7) (.n 1))) (.v 12)))⟩,
  ⟨[dq22, dq21, dq19, dq9, dq10, dq11, dq12, dq13, dq14, dq15, dq16, dq17, dq7, dq8, dq1, dq2, dq3, dq4, dq5], (.x (.o .eq (.u .len (.o .snoc (.o .take (.v 7) (.v 10)) (.n 2))) (.u (.wrap .i64) (.o .add (.v 7) (.n 1)))))⟩,
  ⟨[dq22, dq21, dq19, dq9, dq10, dq11, dq12, dq13, dq14, dq15, dq16, dq17, dq7, dq8, dq1, dq2, dq3, dq4, dq5], (.q (.u (.f 43) (.o .cons (.v 1) (.o .cons (.u (.wrap .i64) (.o .add (.v 7) (.n 1))) .nil))) (.u (.wrap .i64) (.o .add (.u (.f 43) (.o .cons (.v 1) (.o .cons (.v 7) .nil))) (.u (.wrap .i64) (.o .rem (.o .get (.v 1) (.v 7)) (.n 16))))))⟩,
  ⟨[dq22, dq21, dq19, dq9, dq10, dq11, dq12, dq13, dq14, dq15, dq16, dq17, dq7, dq8, dq1, dq2, dq3, dq4, dq5], (.q (.u (.wrap .i64) (.o .add (.v 7) (.n 1))) (.o .add (.v 7) (.n 1)))⟩,
  ⟨[dq23, dq10, dq11, dq12, dq13, dq14, dq15, dq16, dq17, dq7, dq8, dq1, dq2, dq3, dq4, dq5], (.x (.o .eq (.u .len (.u (.f 41) (.o .cons (.v 0) (.o .cons (.v 4) (.o .cons (.v 7) .nil))))) (.v 7)))⟩,
  ⟨[dq23, dq10, dq11, dq12, dq13, dq14, dq15, dq16, dq17, dq7, dq8, dq1, dq2, dq3, dq4, dq5], (.x (.o .eq (.u .len (.u (.f 42) (.o .cons (.v 1) (.o .cons (.v 7) .nil)))) (.v 7)))⟩,
  ⟨[dq23, dq10, dq11, dq12, dq13, dq14, dq15, dq16, dq17, dq7, dq8, dq1, dq2, dq3, dq4, dq5], (.x (.o .le (.v 7) (.n 80)))⟩,
  ⟨[dq23, dq10, dq11, dq12, dq13, dq14, dq15, dq16, dq17, dq7, dq8, dq1, dq2, dq3, dq4, dq5], (.p 21 [(.u (.f 41) (.o .cons (.v 0) (.o .cons (.v 4) (.o .cons (.v 7) .nil))))])⟩,
  ⟨[dq23, dq10, dq11, dq12, dq13, dq14, dq15, dq16, dq17, dq7, dq8, dq1, dq2, dq3, dq4, dq5], (.p 24 [(.u (.f 41) (.o .cons (.v 0) (.o .cons (.v 4) (.o .cons (.v 7) .nil)))), (.u (.f 42) (.o .cons (.v 1) (.o .cons (.v 7) .nil))), (.u (.f 35) (.o .cons (.u (.f 41) (.o .cons (.v 0) (.o .cons (.v 4) (.o .cons (.v 7) .nil)))) (.o .cons (.u (.f 42) (.o .cons (.v 1) (.o .cons (.v 7) .nil))) (.o .cons (.v 7) .nil)))), (.u (.f 36) (.o .cons (.u (.f 41) (.o .cons (.v 0) (.o .cons (.v 4) (.o .cons (.v 7) .nil)))) (.o .cons (.u (.f 42) (.o .cons (.v 1) (.o .cons (.v 7) .nil))) (.o .cons (.v 7) .nil)))), (.u (.f 37) (.o .cons (.u (.f 41) (.o .cons (.v 0) (.o .cons (.v 4) (.o .cons (.v 7) .nil)))) (.o .cons (.u (.f 42) (.o .cons (.v 1) (.o .cons (.v 7) .nil))) (.o .cons (.v 7) .nil)))), (.v 7), (.u (.wrap .i64) (.o .rem (.v 4) (.n 40))), (.n 0), (.n (-1)), (.n (-1)), (.n (-1)), (.t false)])⟩,
  ⟨[dq24, dq25], (.x (.o .le (.n 0) (.v 7)))⟩,
  ⟨[dq26, dq19, dq24, dq25], (.x (.o .le (.n 0) (.v 21)))⟩,
  ⟨[dq27, dq26, dq19, dq24, dq25], (.x (.o .lt (.v 21) (.u .len (.v 22))))⟩,
  ⟨[dq28, dq27, dq26, dq19, dq24, dq25], (.x (.o .lt (.n 0) (.u .len (.o .get (.v 22) (.v 21)))))⟩,
  ⟨[dq29, dq30, dq28, dq27, dq26, dq19, dq24, dq25], (.q (.o .and (.o .eq (.o .get (.o .get (.v 22) (.v 21)) (.n 0)) (.n 1)) (.u .not (.v 20))) (.u .not (.v 20)))⟩,
  ⟨[dq31, dq30, dq28, dq27, dq26, dq19, dq24, dq25], (.q (.o .and (.o .eq (.o .get (.o .get (.v 22) (.v 21)) (.n 0)) (.n 1)) (.u .not (.v 20))) (.t false))⟩,
  ⟨[dq32, dq30, dq28, dq27, dq26, dq19, dq24, dq25], (.x (.o .lt (.v 21) (.u .len (.v 23))))⟩,
  ⟨[dq33, dq32, dq30, dq28, dq27, dq26, dq19, dq24, dq25], (.q (.o .get (.v 23) (.v 21)) (.o .add (.c .ite (.o .and (.o .eq (.o .get (.o .get (.v 22) (.v 21)) (.n 0)) (.n 1)) (.u .not (.v 20))) (.o .get (.v 23) (.v 21)) (.v 17)) (.n 0)))⟩,
  ⟨[dq34, dq30, dq28, dq27, dq26, dq19, dq24, dq25], (.q (.v 17) (.o .add (.c .ite (.o .and (.o .eq (.o .get (.o .get (.v 22) (.v 21)) (.n 0)) (.n 1)) (.u .not (.v 20))) (.o .get (.v 23) (.v 21)) (.v 17)) (.n 0)))⟩,
  ⟨[dq31, dq35, dq30, dq28, dq27, dq26, dq19, dq24, dq25], (.q (.o .and (.u .not (.o .eq (.o .get (.o .get (.v 22) (.v 21)) (.n 0)) (.n 1))) (.v 20)) (.v 20))⟩,
  ⟨[dq29, dq35, dq30, dq28, dq27, dq26, dq19, dq24, dq25], (.q (.o .and (.u .not (.o .eq (.o .get (.o .get (.v 22) (.v 21)) (.n 0)) (.n 1))) (.v 20)) (.t false))⟩,
  ⟨[dq36, dq35, dq30, dq28, dq27, dq26, dq19, dq24, dq25], (.x (.o .lt (.v 21) (.u .len (.v 23))))⟩,
  ⟨[dq33, dq36, dq35, dq30, dq28, dq27, dq26, dq19, dq24, dq25], (.q (.o .get (.v 23) (.v 21)) (.o .add (.c .ite (.o .and (.u .not (.o .eq (.o .get (.o .get (.v 22) (.v 21)) (.n 0)) (.n 1))) (.v 20)) (.o .get (.v 23) (.v 21)) (.v 18)) (.n 0)))⟩,
  ⟨[dq37, dq35, dq30, dq28, dq27, dq26, dq19, dq24, dq25], (.q (.v 18) (.o .add (.c .ite (.o .and (.u .not (.o .eq (.o .get (.o .get (.v 22) (.v 21)) (.n 0)) (.n 1))) (.v 20)) (.o .get (.v 23) (.v 21)) (.v 18)) (.n 0)))⟩,
  ⟨[dq38, dq39, dq35, dq30, dq28, dq27, dq26, dq19, dq24, dq25], (.x (.o .lt (.v 21) (.u .len (.v 23))))⟩,
  ⟨[dq33, dq38, dq39, dq35, dq30, dq28, dq27, dq26, dq19, dq24, dq25], (.q (.o .and (.o .le (.n 0) (.v 19)) (.o .le (.v 27) (.u (.wrap .i64) (.o .sub (.o .get (.v 23) (.v 21)) (.v 19))))) (.o .le (.v 27) (.u (.wrap .i64) (.o .sub (.o .get (.v 23) (.v 21)) (.v 19)))))⟩,
  ⟨[dq40, dq39, dq35, dq30, dq28, dq27, dq26, dq19, dq24, dq25], (.q (.o .and (.o .le (.n 0) (.v 19)) (.o .le (.v 27) (.u (.wrap .i64) (.o .sub (.o .get (.v 23) (.v 21)) (.v 19))))) (.t false))⟩,
  ⟨[dq32, dq41, dq39, dq35, dq30, dq28, dq27, dq26, dq19, dq24, dq25], (.q (.n (-2)) (.o .add (.c .ite (.o .and (.o .le (.n 0) (.v 19)) (.o .le (.v 27) (.u (.wrap .i64) (.o .sub (.o .get (.v 23) (.v 21)) (.v 19))))) (.c .ite (.o .and (.o .eq (.o .get (.o .get (.v 22) (.v 21)) (.n 0)) (.n 1)) (.u .not (.v 20))) (.n (-2)) (.n (-1))) (.v 19)) (.n 0)))⟩,
  ⟨[dq34, dq41, dq39, dq35, dq30, dq28, dq27, dq26, dq19, dq24, dq25], (.q (.n (-1)) (.o .add (.c .ite (.o .and (.o .le (.n 0) (.v 19)) (.o .le (.v 27) (.u (.wrap .i64) (.o .sub (.o .get (.v 23) (.v 21)) (.v 19))))) (.c .ite (.o .and (.o .eq (.o .get (.o .get (.v 22) (.v 21)) (.n 0)) (.n 1)) (.u .not (.v 20))) (.n (-2)) (.n (-1))) (.v 19)) (.n 0)))⟩,
  ⟨[dq42, dq39, dq35, dq30, dq28, dq27, dq26, dq19, dq24, dq25], (.q (.v 19) (.o .add (.c .ite (.o .and (.o .le (.n 0) (.v 19)) (.o .le (.v 27) (.u (.wrap .i64) (.o .sub (.o .get (.v 23) (.v 21)) (.v 19))))) (.c .ite (.o .and (.o .eq (.o .get (.o .get (.v 22) (.v 21)) (.n 0)) (.n 1)) (.u .not (.v 20))) (.n (-2)) (.n (-1))) (.v 19)) (.n 0)))⟩,
  ⟨[dq29, dq43, dq44, dq39, dq35, dq30, dq28, dq27, dq26, dq19, dq24, dq25], (.q (.o .and (.o .eq (.v 30) (.n (-1))) (.o .and (.o .eq (.o .get (.o .get (.v 22) (.v 21)) (.n 0)) (.n 1)) (.u .not (.v 20)))) (.u .not (.v 20)))⟩,
  ⟨[dq31, dq43, dq44, dq39, dq35, dq30, dq28, dq27, dq26, dq19, dq24, dq25], (.q (.o .and (.o .eq (.v 30) (.n (-1))) (.o .and (.o .eq (.o .get (.o .get (.v 22) (.v 21)) (.n 0)) (.n 1)) (.u .not (.v 20)))) (.t false))⟩,
  ⟨[dq45, dq44, dq39, dq35, dq30, dq28, dq27, dq26, dq19, dq24, dq25], (.q (.o .and (.o .eq (.v 30) (.n (-1))) (.o .and (.o .eq (.o .get (.o .get (.v 22) (.v 21)) (.n 0)) (.n 1)) (.u .not (.v 20)))) (.t false))⟩,
  ⟨[dq46, dq44, dq39, dq35, dq30, dq28, dq27, dq26, dq19, dq24, dq25], (.x (.o .lt (.v 21) (.u .len (.v 23))))⟩,
  ⟨[dq33, dq46, dq44, dq39, dq35, dq30, dq28, dq27, dq26, dq19, dq24, dq25], (.q (.o .get (.v 23) (.v 21)) (.o .add (.c .ite (.o .and (.o .eq (.v 30) (.n (-1))) (.o .and (.o .eq (.o .get (.o .get (.v 22) (.v 21)) (.n 0)) (.n 1)) (.u .not (.v 20)))) (.o .get (.v 23) (.v 21)) (.v 30)) (.n 0)))⟩,
  ⟨[dq47, dq44, dq39, dq35, dq30, dq28, dq27, dq26, dq19, dq24, dq25], (.q (.v 30) (.o .add (.c .ite (.o .and (.o .eq (.v 30) (.n (-1))) (.o .and (.o .eq (.o .get (.o .get (.v 22) (.v 21)) (.n 0)) (.n 1)) (.u .not (.v 20)))) (.o .get (.v 23) (.v 21)) (.v 30)) (.n 0)))⟩,
  ⟨[dq48, dq49, dq50, dq29, dq51, dq44, dq39, dq35, dq30, dq28, dq27, dq26, dq19, dq24, dq25], (.x (.o .lt (.v 21) (.u .len (.v 24))))⟩,
  ⟨[dq48, dq49, dq50, dq29, dq51, dq44, dq39, dq35, dq30, dq28, dq27, dq26, dq19, dq24, dq25], (.x (.o .lt (.v 21) (.u .len (.v 23))))⟩,
  ⟨[dq48, dq49, dq50, dq29, dq51, dq44, dq39, dq35, dq30, dq28, dq27, dq26, dq19, dq24, dq25], (.x (.o .lt (.n 0) (.u .len (.o .get (.v 24) (.v 21)))))⟩,
  ⟨[dq48, dq49, dq50, dq29, dq51, dq44, dq39, dq35, dq30, dq28, dq27, dq26, dq19, dq24, dq25], (.x (.o .lt (.v 21) (.u .len (.v 25))))⟩,
  ⟨[dq48, dq49, dq50, dq29, dq51, dq44, dq39, dq35, dq30, dq28, dq27, dq26, dq19, dq24, dq25], (.x (.o .lt (.n 0) (.u .len (.o .get (.v 25) (.v 21)))))⟩,
  ⟨[dq52, dq49, dq50, dq29, dq51, dq44, dq39, dq35, dq30, dq28, dq27, dq26, dq19, dq24, dq25], (.x (.o .lt (.v 21) (.u .len (.v 24))))⟩,
  ⟨[dq52, dq49, dq50, dq29, dq51, dq44, dq39, dq35, dq30, dq28, dq27, dq26, dq19, dq24, dq25], (.x (.o .lt (.v 21) (.u .len (.v 23))))⟩,
  ⟨[dq52, dq49, dq50, dq29, dq51, dq44, dq39, dq35, dq30, dq28, dq27, dq26, dq19, dq24, dq25], (.x (.o .lt (.n 0) (.u .len (.o .get (.v 24) (.v 21)))))⟩,
  ⟨[dq52, dq49, dq50, dq29, dq51, dq44, dq39, dq35, dq30, dq28, dq27, dq26, dq19, dq24, dq25], (.x (.o .lt (.v 21) (.u .len (.v 25))))⟩,
  ⟨[dq52, dq49, dq50, dq29, dq51, dq44, dq39, dq35, dq30, dq28, dq27, dq26, dq19, dq24, dq25], (.x (.o .lt (.n 0) (.u .len (.o .get (.v 25) (.v 21)))))⟩,
  ⟨[dq48, dq53, dq50, dq29, dq51, dq44, dq39, dq35, dq30, dq28, dq27, dq26, dq19, dq24, dq25], (.x (.o .lt (.v 21) (.u .len (.v 24))))⟩,
  ⟨[dq48, dq53, dq50, dq29, dq51, dq44, dq39, dq35, dq30, dq28, dq27, dq26, dq19, dq24, dq25], (.x (.o .lt (.v 21) (.u .len (.v 23))))⟩,
  ⟨[dq48, dq53, dq50, dq29, dq51, dq44, dq39, dq35, dq30, dq28, dq27, dq26, dq19, dq24, dq25], (.x (.o .lt (.n 0) (.u .len (.o .get (.v 24) (.v 21)))))⟩,
  ⟨[dq52, dq53, dq50, dq29, dq51, dq44, dq39, dq35, dq30, dq28, dq27, dq26, dq19, dq24, dq25], (.x (.o .lt (.v 21) (.u .len (.v 24))))⟩,
  ⟨[dq52, dq53, dq50, dq29, dq51, dq44, dq39, dq35, dq30, dq28, dq27, dq26, dq19, dq24, dq25], (.x (.o .lt (.v 21) (.u .len (.v 23))))⟩,
  ⟨[dq52, dq53, dq50, dq29, dq51, dq44, dq39, dq35, dq30, dq28, dq27, dq26, dq19, dq24, dq25], (.x (.o .lt (.n 0) (.u .len (.o .get (.v 24) (.v 21)))))⟩,
  ⟨[dq48, dq49, dq54, dq29, dq51, dq44, dq39, dq35, dq30, dq28, dq27, dq26, dq19, dq24, dq25], (.x (.o .lt (.v 21) (.u .len (.v 24))))⟩,
  ⟨[dq48, dq49, dq54, dq29, dq51, dq44, dq39, dq35, dq30, dq28, dq27, dq26, dq19, dq24, dq25], (.x (.o .lt (.v 21) (.u .len (.v 23))))⟩,
  ⟨[dq48, dq49, dq54, dq29, dq51, dq44, dq39, dq35, dq30, dq28, dq27, dq26, dq19, dq24, dq25], (.x (.o .lt (.n 0) (.u .len (.o .get (.v 24) (.v 21)))))⟩,
  ⟨[dq52, dq49, dq54, dq29, dq51, dq44, dq39, dq35, dq30, dq28, dq27, dq26, dq19, dq24, dq25], (.x (.o .lt (.v 21) (.u .len (.v 24))))⟩,
  ⟨[dq52, dq49, dq54, dq29, dq51, dq44, dq39, dq35, dq30, dq28, dq27, dq26, dq19, dq24, dq25], (.x (.o .lt (.v 21) (.u .len (.v 23))))⟩,
  ⟨[dq52, dq49, dq54, dq29, dq51, dq44, dq39, dq35, dq30, dq28, dq27, dq26, dq19, dq24, dq25], (.x (.o .lt (.n 0) (.u .len (.o .get (.v 24) (.v 21)))))⟩,
  ⟨[dq48, dq53, dq54, dq29, dq51, dq44, dq39, dq35, dq30, dq28, dq27, dq26, dq19, dq24, dq25], (.x (.o .lt (.v 21) (.u .len (.v 24))))⟩,
  ⟨[dq48, dq53, dq54, dq29, dq51, dq44, dq39, dq35, dq30, dq28, dq27, dq26, dq19, dq24, dq25], (.x (.o .lt (.v 21) (.u .len (.v 23))))⟩,
  ⟨[dq48, dq53, dq54, dq29, dq51, dq44, dq39, dq35, dq30, dq28, dq27, dq26, dq19, dq24, dq25], (.x (.o .lt (.n 0) (.u .len (.o .get (.v 24) (.v 21)))))⟩,
  ⟨[dq48, dq53, dq54, dq29, dq51, dq44, dq39, dq35, dq30, dq28, dq27, dq26, dq19, dq24, dq25], (.x (.o .lt (.v 21) (.u .len (.v 25))))⟩,
  ⟨[dq48, dq53, dq54, dq29, dq51, dq44, dq39, dq35, dq30, dq28, dq27, dq26, dq19, dq24, dq25], (.x (.o .lt (.n 0) (.u .len (.o .get (.v 25) (.v 21)))))⟩,
  ⟨[dq52, dq53, dq54, dq29, dq51, dq44, dq39, dq35, dq30, dq28, dq27, dq26, dq19, dq24, dq25], (.x (.o .lt (.v 21) (.u .len (.v 24))))⟩,
  ⟨[dq52, dq53, dq54, dq29, dq51, dq44, dq39, dq35, dq30, dq28, dq27, dq26, dq19, dq24, dq25], (.x (.o .lt (.v 21) (.u .len (.v 23))))⟩,
  ⟨[dq52, dq53, dq54, dq29, dq51, dq44, dq39, dq35, dq30, dq28, dq27, dq26, dq19, dq24, dq25], (.x (.o .lt (.n 0) (.u .len (.o .get (.v 24) (.v 21)))))⟩,
  ⟨[dq52, dq53, dq54, dq29, dq51, dq44, dq39, dq35, dq30, dq28, dq27, dq26, dq19, dq24, dq25], (.x (.o .lt (.v 21) (.u .len (.v 25))))⟩,
  ⟨[dq52, dq53, dq54, dq29, dq51, dq44, dq39, dq35, dq30, dq28, dq27, dq26, dq19, dq24, dq25], (.x (.o .lt (.n 0) (.u .len (.o .get (.v 25) (.v 21)))))⟩,
  ⟨[dq48, dq49, dq50, dq31, dq51, dq44, dq39, dq35, dq30, dq28, dq27, dq26, dq19, dq24, dq25], (.x (.o .lt (.v 21) (.u .len (.v 24))))⟩,
  ⟨[dq48, dq49, dq50, dq31, dq51, dq44, dq39, dq35, dq30, dq28, dq27, dq26, dq19, dq24, dq25], (.x (.o .lt (.n 0) (.u .len (.o .get (.v 24) (.v 21)))))⟩,
  ⟨[dq52, dq49, dq50, dq31, dq51, dq44, dq39, dq35, dq30, dq28, dq27, dq26, dq19, dq24, dq25], (.x (.o .lt (.v 21) (.u .len (.v 24))))⟩,
  ⟨[dq52, dq49, dq50, dq31, dq51, dq44, dq39, dq35, dq30, dq28, dq27, dq26, dq19, dq24, dq25], (.x (.o .lt (.n 0) (.u .len (.o .get (.v 24) (.v 21)))))⟩,
  ⟨[dq48, dq53, dq50, dq31, dq51, dq44, dq39, dq35, dq30, dq28, dq27, dq26, dq19, dq24, dq25], (.x (.o .lt (.v 21) (.u .len (.v 24))))⟩,
  ⟨[dq48, dq53, dq50, dq31, dq51, dq44, dq39, dq35, dq30, dq28, dq27, dq26, dq19, dq24, dq25], (.x (.o .lt (.n 0) (.u .len (.o .get (.v 24) (.v 21)))))⟩,
  ⟨[dq52, dq53, dq50, dq31, dq51, dq44, dq39, dq35, dq30, dq28, dq27, dq26, dq19, dq24, dq25], (.x (.o .lt (.v 21) (.u .len (.v 24))))⟩,
  ⟨[dq52, dq53, dq50, dq31, dq51, dq44, dq39, dq35, dq30, dq28, dq27, dq26, dq19, dq24, dq25], (.x (.o .lt (.n 0) (.u .len (.o .get (.v 24) (.v 21)))))⟩,
  ⟨[dq48, dq49, dq54, dq31, dq51, dq44, dq39, dq35, dq30, dq28, dq27, dq26, dq19, dq24, dq25], (.x (.o .lt (.v 21) (.u .len (.v 24))))⟩,
  ⟨[dq48, dq49, dq54, dq31, dq51, dq44, dq39, dq35, dq30, dq28, dq27, dq26, dq19, dq24, dq25], (.x (.o .lt (.n 0) (.u .len (.o .get (.v 24) (.v 21)))))⟩,
  ⟨[dq48, dq49, dq54, dq31, dq51, dq44, dq39, dq35, dq30, dq28, dq27, dq26, dq19, dq24, dq25], (.x (.o .lt (.v 21) (.u .len (.v 25))))⟩,
  ⟨[dq48, dq49, dq54, dq31, dq51, dq44, dq39, dq35, dq30, dq28, dq27, dq26, dq19, dq24, dq25], (.x (.o .lt (.v 21) (.u .len (.v 23))))⟩,
  ⟨[dq48, dq49, dq54, dq31, dq51, dq44, dq39, dq35, dq30, dq28, dq27, dq26, dq19, dq24, dq25], (.x (.o .lt (.n 0) (.u .len (.o .get (.v 25) (.v 21)))))⟩,
  ⟨[dq52, dq49, dq54, dq31, dq51, dq44, dq39, dq35, dq30, dq28, dq27, dq26, dq19, dq24, dq25], (.x (.o .lt (.v 21) (.u .len (.v 24))))⟩,
  ⟨[dq52, dq49, dq54, dq31, dq51, dq44, dq39, dq35, dq30, dq28, dq27, dq26, dq19, dq24, dq25], (.x (.o .lt (.n 0) (.u .len (.o .get (.v 24) (.v 21)))))⟩,
  ⟨[dq52, dq49, dq54, dq31, dq51, dq44, dq39, dq35, dq30, dq28, dq27, dq26, dq19, dq24, dq25], (.x (.o .lt (.v 21) (.u .len (.v 25))))⟩,
  ⟨[dq52, dq49, dq54, dq31, dq51, dq44, dq39, dq35, dq30, dq28, dq27, dq26, dq19, dq24, dq25], (.x (.o .lt (.n 0) (.u .len (.o .get (.v 25) (.v 21)))))⟩,
  ⟨[dq48, dq53, dq54, dq31, dq51, dq44, dq39, dq35, dq30, dq28, dq27, dq26, dq19, dq24, dq25], (.x (.o .lt (.v 21) (.u .len (.v 24))))⟩,
  ⟨[dq48, dq53, dq54, dq31, dq51, dq44, dq39, dq35, dq30, dq28, dq27, dq26, dq19, dq24, dq25], (.x (.o .lt (.n 0) (.u .len (.o .get (.v 24) (.v 21)))))⟩,
  ⟨[dq48, dq53, dq54, dq31, dq51, dq44, dq39, dq35, dq30, dq28, dq27, dq26, dq19, dq24, dq25], (.x (.o .lt (.v 21) (.u .len (.v 25))))⟩,
  ⟨[dq48, dq53, dq54, dq31, dq51, dq44, dq39, dq35, dq30, dq28, dq27, dq26, dq19, dq24, dq25], (.x (.o .lt (.v 21) (.u .len (.v 23))))⟩,
  ⟨[dq48, dq53, dq54, dq31, dq51, dq44, dq39, dq35, dq30, dq28, dq27, dq26, dq19, dq24, dq25], (.x (.o .lt (.n 0) (.u .len (.o .get (.v 25) (.v 21)))))⟩,
  ⟨[dq52, dq53, dq54, dq31, dq51, dq44, dq39, dq35, dq30, dq28, dq27, dq26, dq19, dq24, dq25], (.x (.o .lt (.v 21) (.u .len (.v 24))))⟩,
  ⟨[dq52, dq53, dq54, dq31, dq51, dq44, dq39, dq35, dq30, dq28, dq27, dq26, dq19, dq24, dq25], (.x (.o .lt (.n 0) (.u .len (.o .get (.v 24) (.v 21)))))⟩,
  ⟨[dq52, dq53, dq54, dq31, dq51, dq44, dq39, dq35, dq30, dq28, dq27, dq26, dq19, dq24, dq25], (.x (.o .lt (.v 21) (.u .len (.v 25))))⟩,
  ⟨[dq52, dq53, dq54, dq31, dq51, dq44, dq39, dq35, dq30, dq28, dq27, dq26, dq19, dq24, dq25], (.x (.o .lt (.n 0) (.u .len (.o .get (.v 25) (.v 21)))))⟩,
  ⟨[dq48, dq49, dq50, dq29, dq51, dq44, dq39, dq35, dq30, dq28, dq27, dq26, dq19, dq24, dq25], (.q (.o .or (.u .not (.o .eqb (.o .eq (.o .get (.o .get (.v 24) (.v 21)) (.n 0)) (.n 1)) (.o .and (.o .eq (.o .get (.o .get (.v 22) (.v 21)) (.n 0)) (.n 1)) (.o .le (.v 27) (.u (.wrap .i64) (.o .sub (.o .get (.v 23) (.v 21)) (.v 28))))))) (.u .not (.o .eqb (.o .eq (.o .get (.o .get (.v 25) (.v 21)) (.n 0)) (.n 1)) (.o .or (.o .eq (.o .get (.o .get (.v 22) (.v 21)) (.n 0)) (.n 1)) (.o .and (.o .le (.n 0) (.v 29)) (.o .lt (.u (.wrap .i64) (.o .sub (.o .get (.v 23) (.v 21)) (.v 29))) (.v 27))))))) (.u .not (.o .eq (.o .get (.o .get (.v 25) (.v 21)) (.n 0)) (.n 1))))⟩,
  ⟨[dq52, dq49, dq50, dq29, dq51, dq44, dq39, dq35, dq30, dq28, dq27, dq26, dq19, dq24, dq25], (.q (.o .or (.u .not (.o .eqb (.o .eq (.o .get (.o .get (.v 24) (.v 21)) (.n 0)) (.n 1)) (.o .and (.o .eq (.o .get (.o .get (.v 22) (.v 21)) (.n 0)) (.n 1)) (.o .le (.v 27) (.u (.wrap .i64) (.o .sub (.o .get (.v 23) (.v 21)) (.v 28))))))) (.u .not (.o .eqb (.o .eq (.o .get (.o .get (.v 25) (.v 21)) (.n 0)) (.n 1)) (.o .or (.o .eq (.o .get (.o .get (.v 22) (.v 21)) (.n 0)) (.n 1)) (.o .and (.o .le (.n 0) (.v 29)) (.o .lt (.u (.wrap .i64) (.o .sub (.o .get (.v 23) (.v 21)) (.v 29))) (.v 27))))))) (.u .not (.o .eq (.o .get (.o .get (.v 25) (.v 21)) (.n 0)) (.n 1))))⟩,
  ⟨[dq48, dq53, dq50, dq29, dq51, dq44, dq39, dq35, dq30, dq28, dq27, dq26, dq19, dq24, dq25], (.q (.o .or (.u .not (.o .eqb (.o .eq (.o .get (.o .get (.v 24) (.v 21)) (.n 0)) (.n 1)) (.o .and (.o .eq (.o .get (.o .get (.v 22) (.v 21)) (.n 0)) (.n 1)) (.o .le (.v 27) (.u (.wrap .i64) (.o .sub (.o .get (.v 23) (.v 21)) (.v 28))))))) (.u .not (.o .eqb (.o .eq (.o .get (.o .get (.v 25) (.v 21)) (.n 0)) (.n 1)) (.o .or (.o .eq (.o .get (.o .get (.v 22) (.v 21)) (.n 0)) (.n 1)) (.o .and (.o .le (.n 0) (.v 29)) (.o .lt (.u (.wrap .i64) (.o .sub (.o .get (.v 23) (.v 21)) (.v 29))) (.v 27))))))) (.t true))⟩,
  ⟨[dq52, dq53, dq50, dq29, dq51, dq44, dq39, dq35, dq30, dq28, dq27, dq26, dq19, dq24, dq25], (.q (.o .or (.u .not (.o .eqb (.o .eq (.o .get (.o .get (.v 24) (.v 21)) (.n 0)) (.n 1)) (.o .and (.o .eq (.o .get (.o .get (.v 22) (.v 21)) (.n 0)) (.n 1)) (.o .le (.v 27) (.u (.wrap .i64) (.o .sub (.o .get (.v 23) (.v 21)) (.v 28))))))) (.u .not (.o .eqb (.o .eq (.o .get (.o .get (.v 25) (.v 21)) (.n 0)) (.n 1)) (.o .or (.o .eq (.o .get (.o .get (.v 22) (.v 21)) (.n 0)) (.n 1)) (.o .and (.o .le (.n 0) (.v 29)) (.o .lt (.u (.wrap .i64) (.o .sub (.o .get (.v 23) (.v 21)) (.v 29))) (.v 27))))))) (.t true))⟩,
  ⟨[dq48, dq49, dq54, dq29, dq51, dq44, dq39, dq35, dq30, dq28, dq27, dq26, dq19, dq24, dq25], (.q (.o .or (.u .not (.o .eqb (.o .eq (.o .get (.o .get (.v 24) (.v 21)) (.n 0)) (.n 1)) (.o .and (.o .eq (.o .get (.o .get (.v 22) (.v 21)) (.n 0)) (.n 1)) (.o .le (.v 27) (.u (.wrap .i64) (.o .sub (.o .get (.v 23) (.v 21)) (.v 28))))))) (.u .not (.o .eqb (.o .eq (.o .get (.o .get (.v 25) (.v 21)) (.n 0)) (.n 1)) (.o .or (.o .eq (.o .get (.o .get (.v 22) (.v 21)) (.n 0)) (.n 1)) (.o .and (.o .le (.n 0) (.v 29)) (.o .lt (.u (.wrap .i64) (.o .sub (.o .get (.v 23) (.v 21)) (.v 29))) (.v 27))))))) (.t true))⟩,
  ⟨[dq52, dq49, dq54, dq29, dq51, dq44, dq39, dq35, dq30, dq28, dq27, dq26, dq19, dq24, dq25], (.q (.o .or (.u .not (.o .eqb (.o .eq (.o .get (.o .get (.v 24) (.v 21)) (.n 0)) (.n 1)) (.o .and (.o .eq (.o .get (.o .get (.v 22) (.v 21)) (.n 0)) (.n 1)) (.o .le (.v 27) (.u (.wrap .i64) (.o .sub (.o .get (.v 23) (.v 21)) (.v 28))))))) (.u .not (.o .eqb (.o .eq (.o .get (.o .get (.v 25) (.v 21)) (.n 0)) (.n 1)) (.o .or (.o .eq (.o .get (.o .get (.v 22) (.v 21)) (.n 0)) (.n 1)) (.o .and (.o .le (.n 0) (.v 29)) (.o .lt (.u (.wrap .i64) (.o .sub (.o .get (.v 23) (.v 21)) (.v 29))) (.v 27))))))) (.t true))⟩,
  ⟨[dq48, dq53, dq54, dq29, dq51, dq44, dq39, dq35, dq30, dq28, dq27, dq26, dq19, dq24, dq25], (.q (.o .or (.u .not (.o .eqb (.o .eq (.o .get (.o .get (.v 24) (.v 21)) (.n 0)) (.n 1)) (.o .and (.o .eq (.o .get (.o .get (.v 22) (.v 21)) (.n 0)) (.n 1)) (.o .le (.v 27) (.u (.wrap .i64) (.o .sub (.o .get (.v 23) (.v 21)) (.v 28))))))) (.u .not (.o .eqb (.o .eq (.o .get (.o .get (.v 25) (.v 21)) (.n 0)) (.n 1)) (.o .or (.o .eq (.o .get (.o .get (.v 22) (.v 21)) (.n 0)) (.n 1)) (.o .and (.o .le (.n 0) (.v 29)) (.o .lt (.u (.wrap .i64) (.o .sub (.o .get (.v 23) (.v 21)) (.v 29))) (.v 27))))))) (.u .not (.o .eq (.o .get (.o .get (.v 25) (.v 21)) (.n 0)) (.n 1))))⟩,
  ⟨[dq52, dq53, dq54, dq29, dq51, dq44, dq39, dq35, dq30, dq28, dq27, dq26, dq19, dq24, dq25], (.q (.o .or (.u .not (.o .eqb (.o .eq (.o .get (.o .get (.v 24) (.v 21)) (.n 0)) (.n 1)) (.o .and (.o .eq (.o .get (.o .get (.v 22) (.v 21)) (.n 0)) (.n 1)) (.o .le (.v 27) (.u (.wrap .i64) (.o .sub (.o .get (.v 23) (.v 21)) (.v 28))))))) (.u .not (.o .eqb (.o .eq (.o .get (.o .get (.v 25) (.v 21)) (.n 0)) (.n 1)) (.o .or (.o .eq (.o .get (.o .get (.v 22) (.v 21)) (.n 0)) (.n 1)) (.o .and (.o .le (.n 0) (.v 29)) (.o .lt (.u (.wrap .i64) (.o .sub (.o .get (.v 23) (.v 21)) (.v 29))) (.v 27))))))) (.u .not (.o .eq (.o .get (.o .get (.v 25) (.v 21)) (.n 0)) (.n 1))))⟩,
  ⟨[dq48, dq49, dq50, dq31, dq51, dq44, dq39, dq35, dq30, dq28, dq27, dq26, dq19, dq24, dq25], (.q (.o .or (.u .not (.o .eqb (.o .eq (.o .get (.o .get (.v 24) (.v 21)) (.n 0)) (.n 1)) (.o .and (.o .eq (.o .get (.o .get (.v 22) (.v 21)) (.n 0)) (.n 1)) (.o .le (.v 27) (.u (.wrap .i64) (.o .sub (.o .get (.v 23) (.v 21)) (.v 28))))))) (.u .not (.o .eqb (.o .eq (.o .get (.o .get (.v 25) (.v 21)) (.n 0)) (.n 1)) (.o .or (.o .eq (.o .get (.o .get (.v 22) (.v 21)) (.n 0)) (.n 1)) (.o .and (.o .le (.n 0) (.v 29)) (.o .lt (.u (.wrap .i64) (.o .sub (.o .get (.v 23) (.v 21)) (.v 29))) (.v 27))))))) (.t true))⟩,
  ⟨[dq52, dq49, dq50, dq31, dq51, dq44, dq39, dq35, dq30, dq28, dq27, dq26, dq19, dq24, dq25], (.q (.o .or (.u .not (.o .eqb (.o .eq (.o .get (.o .get (.v 24) (.v 21)) (.n 0)) (.n 1)) (.o .and (.o .eq (.o .get (.o .get (.v 22) (.v 21)) (.n 0)) (.n 1)) (.o .le (.v 27) (.u (.wrap .i64) (.o .sub (.o .get (.v 23) (.v 21)) (.v 28))))))) (.u .not (.o .eqb (.o .eq (.o .get (.o .get (.v 25) (.v 21)) (.n 0)) (.n 1)) (.o .or (.o .eq (.o .get (.o .get (.v 22) (.v 21)) (.n 0)) (.n 1)) (.o .and (.o .le (.n 0) (.v 29)) (.o .lt (.u (.wrap .i64) (.o .sub (.o .get (.v 23) (.v 21)) (.v 29))) (.v 27))))))) (.t true))⟩,
  ⟨[dq48, dq53, dq50, dq31, dq51, dq44, dq39, dq35, dq30, dq28, dq27, dq26, dq19, dq24, dq25], (.q (.o .or (.u .not (.o .eqb (.o .eq (.o .get (.o .get (.v 24) (.v 21)) (.n 0)) (.n 1)) (.o .and (.o .eq (.o .get (.o .get (.v 22) (.v 21)) (.n 0)) (.n 1)) (.o .le (.v 27) (.u (.wrap .i64) (.o .sub (.o .get (.v 23) (.v 21)) (.v 28))))))) (.u .not (.o .eqb (.o .eq (.o .get (.o .get (.v 25) (.v 21)) (.n 0)) (.n 1)) (.o .or (.o .eq (.o .get (.o .get (.v 22) (.v 21)) (.n 0)) (.n 1)) (.o .and (.o .le (.n 0) (.v 29)) (.o .lt (.u (.wrap .i64) (.o .sub (.o .get (.v 23) (.v 21)) (.v 29))) (.v 27))))))) (.t true))⟩,
  ⟨[dq52, dq53, dq50, dq31, dq51, dq44, dq39, dq35, dq30, dq28, dq27, dq26, dq19, dq24, dq25], (.q (.o .or (.u .not (.o .eqb (.o .eq (.o .get (.o .get (.v 24) (.v 21)) (.n 0)) (.n 1)) (.o .and (.o .eq (.o .get (.o .get (.v 22) (.v 21)) (.n 0)) (.n 1)) (.o .le (.v 27) (.u (.wrap .i64) (.o .sub (.o .get (.v 23) (.v 21)) (.v 28))))))) (.u .not (.o .eqb (.o .eq (.o .get (.o .get (.v 25) (.v 21)) (.n 0)) (.n 1)) (.o .or (.o .eq (.o .get (.o .get (.v 22) (.v 21)) (.n 0)) (.n 1)) (.o .and (.o .le (.n 0) (.v 29)) (.o .lt (.u (.wrap .i64) (.o .sub (.o .get (.v 23) (.v 21)) (.v 29))) (.v 27))))))) (.t true))⟩,
  ⟨[dq48, dq49, dq54, dq31, dq51, dq44, dq39, dq35, dq30, dq28, dq27, dq26, dq19, dq24, dq25], (.q (.o .or (.u .not (.o .eqb (.o .eq (.o .get (.o .get (.v 24) (.v 21)) (.n 0)) (.n 1)) (.o .and (.o .eq (.o .get (.o .get (.v 22) (.v 21)) (.n 0)) (.n 1)) (.o .le (.v 27) (.u (.wrap .i64) (.o .sub (.o .get (.v 23) (.v 21)) (.v 28))))))) (.u .not (.o .eqb (.o .eq (.o .get (.o .get (.v 25) (.v 21)) (.n 0)) (.n 1)) (.o .or (.o .eq (.o .get (.o .get (.v 22) (.v 21)) (.n 0)) (.n 1)) (.o .and (.o .le (.n 0) (.v 29)) (.o .lt (.u (.wrap .i64) (.o .sub (.o .get (.v 23) (.v 21)) (.v 29))) (.v 27))))))) (.u .not (.o .eqb (.o .eq (.o .get (.o .get (.v 25) (.v 21)) (.n 0)) (.n 1)) (.o .lt (.u (.wrap .i64) (.o .sub (.o .get (.v 23) (.v 21)) (.v 29))) (.v 27)))))⟩,
  ⟨[dq52, dq49, dq54, dq31, dq51, dq44, dq39, dq35, dq30, dq28, dq27, dq26, dq19, dq24, dq25], (.q (.o .or (.u .not (.o .eqb (.o .eq (.o .get (.o .get (.v 24) (.v 21)) (.n 0)) (.n 1)) (.o .and (.o .eq (.o .get (.o .get (.v 22) (.v 21)) (.n 0)) (.n 1)) (.o .le (.v 27) (.u (.wrap .i64) (.o .sub (.o .get (.v 23) (.v 21)) (.v 28))))))) (.u .not (.o .eqb (.o .eq (.o .get (.o .get (.v 25) (.v 21)) (.n 0)) (.n 1)) (.o .or (.o .eq (.o .get (.o .get (.v 22) (.v 21)) (.n 0)) (.n 1)) (.o .and (.o .le (.n 0) (.v 29)) (.o .lt (.u (.wrap .i64) (.o .sub (.o .get (.v 23) (.v 21)) (.v 29))) (.v 27))))))) (.o .eq (.o .get (.o .get (.v 25) (.v 21)) (.n 0)) (.n 1)))⟩,
  ⟨[dq48, dq53, dq54, dq31, dq51, dq44, dq39, dq35, dq30, dq28, dq27, dq26, dq19, dq24, dq25], (.q (.o .or (.u .not (.o .eqb (.o .eq (.o .get (.o .get (.v 24) (.v 21)) (.n 0)) (.n 1)) (.o .and (.o .eq (.o .get (.o .get (.v 22) (.v 21)) (.n 0)) (.n 1)) (.o .le (.v 27) (.u (.wrap .i64) (.o .sub (.o .get (.v 23) (.v 21)) (.v 28))))))) (.u .not (.o .eqb (.o .eq (.o .get (.o .get (.v 25) (.v 21)) (.n 0)) (.n 1)) (.o .or (.o .eq (.o .get (.o .get (.v 22) (.v 21)) (.n 0)) (.n 1)) (.o .and (.o .le (.n 0) (.v 29)) (.o .lt (.u (.wrap .i64) (.o .sub (.o .get (.v 23) (.v 21)) (.v 29))) (.v 27))))))) (.u .not (.o .eqb (.o .eq (.o .get (.o .get (.v 25) (.v 21)) (.n 0)) (.n 1)) (.o .lt (.u (.wrap .i64) (.o .sub (.o .get (.v 23) (.v 21)) (.v 29))) (.v 27)))))⟩,
  ⟨[dq52, dq53, dq54, dq31, dq51, dq44, dq39, dq35, dq30, dq28, dq27, dq26, dq19, dq24, dq25], (.q (.o .or (.u .not (.o .eqb (.o .eq (.o .get (.o .get (.v 24) (.v 21)) (.n 0)) (.n 1)) (.o .and (.o .eq (.o .get (.o .get (.v 22) (.v 21)) (.n 0)) (.n 1)) (.o .le (.v 27) (.u (.wrap .i64) (.o .sub (.o .get (.v 23) (.v 21)) (.v 28))))))) (.u .not (.o .eqb (.o .eq (.o .get (.o .get (.v 25) (.v 21)) (.n 0)) (.n 1)) (.o .or (.o .eq (.o .get (.o .get (.v 22) (.v 21)) (.n 0)) (.n 1)) (.o .and (.o .le (.n 0) (.v 29)) (.o .lt (.u (.wrap .i64) (.o .sub (.o .get (.v 23) (.v 21)) (.v 29))) (.v 27))))))) (.o .eq (.o .get (.o .get (.v 25) (.v 21)) (.n 0)) (.n 1)))⟩,
  ⟨[dq55, dq56, dq51, dq44, dq39, dq35, dq30, dq28, dq27, dq26, dq19, dq24, dq25], (.x (.o .lt (.v 21) (.u .len (.v 23))))⟩,
  ⟨[dq57, dq33, dq55, dq56, dq51, dq44, dq39, dq35, dq30, dq28, dq27, dq26, dq19, dq24, dq25], (.x (.o .lt (.v 21) (.u .len (.v 26))))⟩,
  ⟨[dq58, dq57, dq33, dq55, dq56, dq51, dq44, dq39, dq35, dq30, dq28, dq27, dq26, dq19, dq24, dq25], (.x (.o .lt (.n 0) (.u .len (.o .get (.v 26) (.v 21)))))⟩,
  ⟨[dq59, dq60, dq33, dq55, dq56, dq51, dq44, dq39, dq35, dq30, dq28, dq27, dq26, dq19, dq24, dq25], (.x (.o .lt (.v 21) (.u .len (.v 26))))⟩,
  ⟨[dq58, dq59, dq60, dq33, dq55, dq56, dq51, dq44, dq39, dq35, dq30, dq28, dq27, dq26, dq19, dq24, dq25], (.x (.o .lt (.n 0) (.u .len (.o .get (.v 26) (.v 21)))))⟩,
  ⟨[dq59, dq61, dq56, dq51, dq44, dq39, dq35, dq30, dq28, dq27, dq26, dq19, dq24, dq25], (.x (.o .lt (.v 21) (.u .len (.v 26))))⟩,
  ⟨[dq58, dq59, dq61, dq56, dq51, dq44, dq39, dq35, dq30, dq28, dq27, dq26, dq19, dq24, dq25], (.x (.o .lt (.n 0) (.u .len (.o .get (.v 26) (.v 21)))))⟩,
  ⟨[dq59, dq62, dq63, dq58, dq57, dq33, dq55, dq56, dq51, dq44, dq39, dq35, dq30, dq28, dq27, dq26, dq19, dq24, dq25], (.q (.o .or (.o .and (.o .and (.o .le (.n 0) (.v 31)) (.o .lt (.u (.wrap .i64) (.o .sub (.o .get (.v 23) (.v 21)) (.v 31))) (.v 27))) (.u .not (.o .eq (.o .get (.o .get (.v 26) (.v 21)) (.n 0)) (.n 1)))) (.o .and (.o .eq (.v 31) (.n (-1))) (.u .not (.o .eq (.o .get (.o .get (.v 26) (.v 21)) (.n 0)) (.n 0))))) (.u .not (.o .eq (.o .get (.o .get (.v 26) (.v 21)) (.n 0)) (.n 0))))⟩,
  ⟨[dq64, dq62, dq63, dq58, dq57, dq33, dq55, dq56, dq51, dq44, dq39, dq35, dq30, dq28, dq27, dq26, dq19, dq24, dq25], (.q (.o .or (.o .and (.o .and (.o .le (.n 0) (.v 31)) (.o .lt (.u (.wrap .i64) (.o .sub (.o .get (.v 23) (.v 21)) (.v 31))) (.v 27))) (.u .not (.o .eq (.o .get (.o .get (.v 26) (.v 21)) (.n 0)) (.n 1)))) (.o .and (.o .eq (.v 31) (.n (-1))) (.u .not (.o .eq (.o .get (.o .get (.v 26) (.v 21)) (.n 0)) (.n 0))))) (.t false))⟩,
  ⟨[dq65, dq63, dq58, dq57, dq33, dq55, dq56, dq51, dq44, dq39, dq35, dq30, dq28, dq27, dq26, dq19, dq24, dq25], (.q (.o .or (.o .and (.o .and (.o .le (.n 0) (.v 31)) (.o .lt (.u (.wrap .i64) (.o .sub (.o .get (.v 23) (.v 21)) (.v 31))) (.v 27))) (.u .not (.o .eq (.o .get (.o .get (.v 26) (.v 21)) (.n 0)) (.n 1)))) (.o .and (.o .eq (.v 31) (.n (-1))) (.u .not (.o .eq (.o .get (.o .get (.v 26) (.v 21)) (.n 0)) (.n 0))))) (.t true))⟩,
  ⟨[dq63, dq58, dq59, dq60, dq33, dq55, dq56, dq51, dq44, dq39, dq35, dq30, dq28, dq27, dq26, dq19, dq24, dq25], (.q (.o .or (.o .and (.o .and (.o .le (.n 0) (.v 31)) (.o .lt (.u (.wrap .i64) (.o .sub (.o .get (.v 23) (.v 21)) (.v 31))) (.v 27))) (.u .not (.o .eq (.o .get (.o .get (.v 26) (.v 21)) (.n 0)) (.n 1)))) (.o .and (.o .eq (.v 31) (.n (-1))) (.u .not (.o .eq (.o .get (.o .get (.v 26) (.v 21)) (.n 0)) (.n 0))))) (.u .not (.o .eq (.o .get (.o .get (.v 26) (.v 21)) (.n 0)) (.n 0))))⟩,
  ⟨[dq64, dq60, dq33, dq55, dq56, dq51, dq44, dq39, dq35, dq30, dq28, dq27, dq26, dq19, dq24, dq25], (.q (.o .or (.o .and (.o .and (.o .le (.n 0) (.v 31)) (.o .lt (.u (.wrap .i64) (.o .sub (.o .get (.v 23) (.v 21)) (.v 31))) (.v 27))) (.u .not (.o .eq (.o .get (.o .get (.v 26) (.v 21)) (.n 0)) (.n 1)))) (.o .and (.o .eq (.v 31) (.n (-1))) (.u .not (.o .eq (.o .get (.o .get (.v 26) (.v 21)) (.n 0)) (.n 0))))) (.t false))⟩,
  ⟨[dq63, dq58, dq59, dq61, dq56, dq51, dq44, dq39, dq35, dq30, dq28, dq27, dq26, dq19, dq24, dq25], (.q (.o .or (.o .and (.o .and (.o .le (.n 0) (.v 31)) (.o .lt (.u (.wrap .i64) (.o .sub (.o .get (.v 23) (.v 21)) (.v 31))) (.v 27))) (.u .not (.o .eq (.o .get (.o .get (.v 26) (.v 21)) (.n 0)) (.n 1)))) (.o .and (.o .eq (.v 31) (.n (-1))) (.u .not (.o .eq (.o .get (.o .get (.v 26) (.v 21)) (.n 0)) (.n 0))))) (.u .not (.o .eq (.o .get (.o .get (.v 26) (.v 21)) (.n 0)) (.n 0))))⟩,
  ⟨[dq64, dq61, dq56, dq51, dq44, dq39, dq35, dq30, dq28, dq27, dq26, dq19, dq24, dq25], (.q (.o .or (.o .and (.o .and (.o .le (.n 0) (.v 31)) (.o .lt (.u (.wrap .i64) (.o .sub (.o .get (.v 23) (.v 21)) (.v 31))) (.v 27))) (.u .not (.o .eq (.o .get (.o .get (.v 26) (.v 21)) (.n 0)) (.n 1)))) (.o .and (.o .eq (.v 31) (.n (-1))) (.u .not (.o .eq (.o .get (.o .get (.v 26) (.v 21)) (.n 0)) (.n 0))))) (.t false))⟩,
  ⟨[dq66, dq67, dq56, dq51, dq44, dq39, dq35, dq30, dq28, dq27, dq26, dq19, dq24, dq25], (.x (.o .le (.n 0) (.o .sub (.v 7) (.u (.wrap .i64) (.o .add (.v 21) (.n 1))))))⟩,
  ⟨[dq66, dq67, dq56, dq51, dq44, dq39, dq35, dq30, dq28, dq27, dq26, dq19, dq24, dq25], (.x (.o .lt (.o .sub (.v 7) (.u (.wrap .i64) (.o .add (.v 21) (.n 1)))) (.o .sub (.v 7) (.v 21))))⟩,
  ⟨[dq66, dq67, dq56, dq51, dq44, dq39, dq35, dq30, dq28, dq27, dq26, dq19, dq24, dq25], (.p 24 [(.v 22), (.v 23), (.v 24), (.v 25), (.v 26), (.v 7), (.v 27), (.u (.wrap .i64) (.o .add (.v 21) (.n 1))), (.v 28), (.v 29), (.v 31), (.o .eq (.o .get (.o .get (.v 22) (.v 21)) (.n 0)) (.n 1))])⟩,
  ⟨[dq66, dq67, dq56, dq51, dq44, dq39, dq35, dq30, dq28, dq27, dq26, dq19, dq24, dq25], (.x (.o .lt (.n (-1)) (.u (.wrap .i64) (.o .add (.v 21) (.n 1)))))⟩,
  ⟨[dq68, dq11, dq12, dq13, dq14, dq15, dq16, dq17, dq7, dq8, dq1, dq2, dq3, dq4, dq5], (.x (.o .eq (.u .len (.u (.f 41) (.o .cons (.v 0) (.o .cons (.v 4) (.o .cons (.v 7) .nil))))) (.v 7)))⟩,
  ⟨[dq68, dq11, dq12, dq13, dq14, dq15, dq16, dq17, dq7, dq8, dq1, dq2, dq3, dq4, dq5], (.x (.o .eq (.u .len (.u (.f 42) (.o .cons (.v 1) (.o .cons (.v 7) .nil)))) (.v 7)))⟩,
  ⟨[dq68, dq11, dq12, dq13, dq14, dq15, dq16, dq17, dq7, dq8, dq1, dq2, dq3, dq4, dq5], (.x (.o .le (.v 7) (.n 80)))⟩,
  ⟨[dq68, dq11, dq12, dq13, dq14, dq15, dq16, dq17, dq7, dq8, dq1, dq2, dq3, dq4, dq5], (.p 21 [(.u (.f 41) (.o .cons (.v 0) (.o .cons (.v 4) (.o .cons (.v 7) .nil))))])⟩,
  ⟨[dq68, dq11, dq12, dq13, dq14, dq15, dq16, dq17, dq7, dq8, dq1, dq2, dq3, dq4, dq5], (.p 24 [(.u (.f 41) (.o .cons (.v 0) (.o .cons (.v 4) (.o .cons (.v 7) .nil)))), (.u (.f 42) (.o .cons (.v 1) (.o .cons (.v 7) .nil))), (.u (.f 35) (.o .cons (.u (.f 41) (.o .cons (.v 0) (.o .cons (.v 4) (.o .cons (.v 7) .nil)))) (.o .cons (.u (.f 42) (.o .cons (.v 1) (.o .cons (.v 7) .nil))) (.o .cons (.v 7) .nil)))), (.u (.f 36) (.o .cons (.u (.f 41) (.o .cons (.v 0) (.o .cons (.v 4) (.o .cons (.v 7) .nil)))) (.o .cons (.u (.f 42) (.o .cons (.v 1) (.o .cons (.v 7) .nil))) (.o .cons (.v 7) .nil)))), (.u (.f 37) (.o .cons (.u (.f 41) (.o .cons (.v 0) (.o .cons (.v 4) (.o .cons (.v 7) .nil)))) (.o .cons (.u (.f 42) (.o .cons (.v 1) (.o .cons (.v 7) .nil))) (.o .cons (.v 7) .nil)))), (.v 7), (.u (.wrap .i64) (.o .rem (.v 4) (.n 40))), (.n 0), (.n (-1)), (.n (-1)), (.n (-1)), (.t false)])⟩,
  ⟨[dq69, dq51, dq44, dq39, dq35, dq30, dq28, dq27, dq26, dq19, dq24, dq25], (.q (.t true) (.t false))⟩,
  ⟨[dq70, dq56, dq51, dq44, dq39, dq35, dq30, dq28, dq27, dq26, dq19, dq24, dq25], (.q (.t true) (.t false))⟩]
theorem del_false_false_run : runAny cDl 100 3 (delK false false) = some del_false_false_ob := by kernel_rfl
theorem del_false_false_all (w : World) : ∀ o ∈ del_false_false_ob, o.ok ⟨w, IDl⟩ := by
  unfold del_false_false_ob
  refine all_cons (da_0 w) ?_
  refine all_cons (da_1 w) ?_
  refine all_cons (da_2 w) ?_
  refine all_cons (da_3 w) ?_
  refine all_cons (da_4 w) ?_
  refine all_cons (da_5 w) ?_
  refine all_cons (da_6 w) ?_
  refine all_cons (da_7 w) ?_
  refine all_cons (da_8 w) ?_
  refine all_cons (da_9 w) ?_
  refine all_cons (da_10 w) ?_
  refine all_cons (da_11 w) ?_
  refine all_cons (da_12 w) ?_
  refine all_cons (da_13 w) ?_
  refine all_cons (da_14 w) ?_
  refine all_cons (da_15 w) ?_
  refine all_cons (da_16 w) ?_
  refine all_cons (da_17 w) ?_
  refine all_cons (da_18 w) ?_
  refine all_cons (da_19 w) ?_
  refine all_cons (da_20 w) ?_
  refine all_cons (da_21 w) ?_
  refine all_cons (da_22 w) ?_
  refine all_cons (da_23 w) ?_
  refine all_cons (da_24 w) ?_
  refine all_cons (da_25 w) ?_
  refine all_cons (da_26 w) ?_
  refine all_cons (da_27 w) ?_
  refine all_cons (da_28 w) ?_
  refine all_cons (da_29 w) ?_
  refine all_cons (da_30 w) ?_
  refine all_cons (da_31 w) ?_
  refine all_cons (da_32 w) ?_
  refine all_cons (da_33 w) ?_
  refine all_cons (dl_34 w) ?_
  refine all_cons (bd_0 (by simp) (by simp) w) ?_
  refine all_cons (bd_1 (by simp) (by simp) w) ?_
  refine all_cons (bd_2 (by simp) (by simp) w) ?_
  refine all_cons (dg_0_ok w _ (List.mem_cons_self)) ?_
  refine all_cons (dg_0_ok w _ (List.mem_cons_of_mem _ (List.mem_cons_self))) ?_
  refine all_cons (bd_3 (by simp) (by simp) w) ?_
  refine all_cons (dg_1_ok w _ (List.mem_cons_self)) ?_
  refine all_cons (dg_1_ok w _ (List.mem_cons_of_mem _ (List.mem_cons_self))) ?_
  refine all_cons (dg_2_ok w _ (List.mem_cons_self)) ?_
  refine all_cons (dg_2_ok w _ (List.mem_cons_of_mem _ (List.mem_cons_self))) ?_
  refine all_cons (bd_3 (by simp) (by simp) w) ?_
  refine all_cons (dg_3_ok w _ (List.mem_cons_self)) ?_
  refine all_cons (dg_3_ok w _ (List.mem_cons_of_mem _ (List.mem_cons_self))) ?_
  refine all_cons (bd_3 (by simp) (by simp) w) ?_
  refine all_cons (dg_4_ok w _ (List.mem_cons_self)) ?_
  refine all_cons (dg_4_ok w _ (List.mem_cons_of_mem _ (List.mem_cons_self))) ?_
  refine all_cons (dg_5_ok w _ (List.mem_cons_self)) ?_
  refine all_cons (dg_5_ok w _ (List.mem_cons_of_mem _ (List.mem_cons_self))) ?_
  refine all_cons (dg_5_ok w _ (List.mem_cons_of_mem _ (List.mem_cons_of_mem _ (List.mem_cons_self)))) ?_
  refine all_cons (dg_6_ok w _ (List.mem_cons_self)) ?_
  refine all_cons (dg_6_ok w _ (List.mem_cons_of_mem _ (List.mem_cons_self))) ?_
  refine all_cons (dg_6_ok w _ (List.mem_cons_of_mem _ (List.mem_cons_of_mem _ (List.mem_cons_self)))) ?_
  refine all_cons (bd_3 (by simp) (by simp) w) ?_
  refine all_cons (dg_7_ok w _ (List.mem_cons_self)) ?_
  refine all_cons (dg_7_ok w _ (List.mem_cons_of_mem _ (List.mem_cons_self))) ?_
  refine all_cons (bd_4 (by simp) (by simp) w) ?_
  refine all_cons (bd_3 (by simp) (by simp) w) ?_
  refine all_cons (bd_5 (by simp) (by simp) w) ?_
  refine all_cons (bd_6 (by simp) (by simp) w) ?_
  refine all_cons (bd_7 (by simp) (by simp) w) ?_
  refine all_cons (bd_4 (by simp) (by simp) w) ?_
  refine all_cons (bd_3 (by simp) (by simp) w) ?_
  refine all_cons (bd_5 (by simp) (by simp) w) ?_
  refine all_cons (bd_6 (by simp) (by simp) w) ?_
  refine all_cons (bd_7 (by simp) (by simp) w) ?_
  refine all_cons (bd_4 (by simp) (by simp) w) ?_
  refine all_cons (bd_3 (by simp) (by simp) w) ?_
  refine all_cons (bd_5 (by simp) (by simp) w) ?_
  refine all_cons (bd_4 (by simp) (by simp) w) ?_
  refine all_cons (bd_3 (by simp) (by simp) w) ?_
  refine all_cons (bd_5 (by simp) (by simp) w) ?_
  refine all_cons (bd_4 (by simp) (by simp) w) ?_
  refine all_cons (bd_3 (by simp) (by simp) w) ?_
  refine all_cons (bd_5 (by simp) (by simp) w) ?_
  refine all_cons (bd_4 (by simp) (by simp) w) ?_
  refine all_cons (bd_3 (by simp) (by simp) w) ?_
  refine all_cons (bd_5 (by simp) (by simp) w) ?_
  refine all_cons (bd_4 (by simp) (by simp) w) ?_
  refine all_cons (bd_3 (by simp) (by simp) w) ?_
  refine all_cons (bd_5 (by simp) (by simp) w) ?_
  refine all_cons (bd_6 (by simp) (by simp) w) ?_
  refine all_cons (bd_7 (by simp) (by simp) w) ?_
  refine all_cons (bd_4 (by simp) (by simp) w) ?_
  refine all_cons (bd_3 (by simp) (by simp) w) ?_
  refine all_cons (bd_5 (by simp) (by simp) w) ?_
  refine all_cons (bd_6 (by simp) (by simp) w) ?_
  refine all_cons (bd_7 (by simp) (by simp) w) ?_
  refine all_cons (bd_4 (by simp) (by simp) w) ?_
  refine all_cons (bd_5 (by simp) (by simp) w) ?_
  refine all_cons (bd_4 (by simp) (by simp) w) ?_
  refine all_cons (bd_5 (by simp) (by simp) w) ?_
  refine all_cons (bd_4 (by simp) (by simp) w) ?_
  refine all_cons (bd_5 (by simp) (by simp) w) ?_
  refine all_cons (bd_4 (by simp) (by simp) w) ?_
  refine all_cons (bd_5 (by simp) (by simp) w) ?_
  refine all_cons (bd_4 (by simp) (by simp) w) ?_
  refine all_cons (bd_5 (by simp) (by simp) w) ?_
  refine all_cons (bd_6 (by simp) (by simp) w) ?_
  refine all_cons (bd_3 (by simp) (by simp) w) ?_
  refine all_cons (bd_7 (by simp) (by simp) w) ?_
  refine all_cons (bd_4 (by simp) (by simp) w) ?_
  refine all_cons (bd_5 (by simp) (by simp) w) ?_
  refine all_cons (bd_6 (by simp) (by simp) w) ?_
  refine all_cons (bd_7 (by simp) (by simp) w) ?_
  refine all_cons (bd_4 (by simp) (by simp) w) ?_
  refine all_cons (bd_5 (by simp) (by simp) w) ?_
  refine all_cons (bd_6 (by simp) (by simp) w) ?_
  refine all_cons (bd_3 (by simp) (by simp) w) ?_
  refine all_cons (bd_7 (by simp) (by simp) w) ?_
  refine all_cons (bd_4 (by simp) (by simp) w) ?_
  refine all_cons (bd_5 (by simp) (by simp) w) ?_
  refine all_cons (bd_6 (by simp) (by simp) w) ?_
  refine all_cons (bd_7 (by simp) (by simp) w) ?_
  refine all_cons (dg_8_ok w _ (List.mem_cons_self)) ?_
  refine all_cons (dg_8_ok w _ (List.mem_cons_of_mem _ (List.mem_cons_self))) ?_
  refine all_cons (dg_8_ok w _ (List.mem_cons_of_mem _ (List.mem_cons_of_mem _ (List.mem_cons_self)))) ?_
  refine all_cons (dg_8_ok w _ (List.mem_cons_of_mem _ (List.mem_cons_of_mem _ (List.mem_cons_of_mem _ (List.mem_cons_self))))) ?_
  refine all_cons (dg_8_ok w _ (List.mem_cons_of_mem _ (List.mem_cons_of_mem _ (List.mem_cons_of_mem _ (List.mem_cons_of_mem _ (List.mem_cons_self)))))) ?_
  refine all_cons (dg_8_ok w _ (List.mem_cons_of_mem _ (List.mem_cons_of_mem _ (List.mem_cons_of_mem _ (List.mem_cons_of_mem _ (List.mem_cons_of_mem _ (List.mem_cons_self))))))) ?_
  refine all_cons (dg_8_ok w _ (List.mem_cons_of_mem _ (List.mem_cons_of_mem _ (List.mem_cons_of_mem _ (List.mem_cons_of_mem _ (List.mem_cons_of_mem _ (List.mem_cons_of_mem _ (List.mem_cons_self)))))))) ?_
  refine all_cons (dg_8_ok w _ (List.mem_cons_of_mem _ (List.mem_cons_of_mem _ (List.mem_cons_of_mem _ (List.mem_cons_of_mem _ (List.mem_cons_of_mem _ (List.mem_cons_of_mem _ (List.mem_cons_of_mem _ (List.mem_cons_self))))))))) ?_
  refine all_cons (dg_8_ok w _ (List.mem_cons_of_mem _ (List.mem_cons_of_mem _ (List.mem_cons_of_mem _ (List.mem_cons_of_mem _ (List.mem_cons_of_mem _ (List.mem_cons_of_mem _ (List.mem_cons_of_mem _ (List.mem_cons_of_mem _ (List.mem_cons_self)))))))))) ?_
  refine all_cons (dg_8_ok w _ (List.mem_cons_of_mem _ (List.mem_cons_of_mem _ (List.mem_cons_of_mem _ (List.mem_cons_of_mem _ (List.mem_cons_of_mem _ (List.mem_cons_of_mem _ (List.mem_cons_of_mem _ (List.mem_cons_of_mem _ (List.mem_cons_of_mem _ (List.mem_cons_self))))))))))) ?_
  refine all_cons (dg_8_ok w _ (List.mem_cons_of_mem _ (List.mem_cons_of_mem _ (List.mem_cons_of_mem _ (List.mem_cons_of_mem _ (List.mem_cons_of_mem _ (List.mem_cons_of_mem _ (List.mem_cons_of_mem _ (List.mem_cons_of_mem _ (List.mem_cons_of_mem _ (List.mem_cons_of_mem _ (List.mem_cons_self)))))))))))) ?_
  refine all_cons (dg_8_ok w _ (List.mem_cons_of_mem _ (List.mem_cons_of_mem _ (List.mem_cons_of_mem _ (List.mem_cons_of_mem _ (List.mem_cons_of_mem _ (List.mem_cons_of_mem _ (List.mem_cons_of_mem _ (List.mem_cons_of_mem _ (List.mem_cons_of_mem _ (List.mem_cons_of_mem _ (List.mem_cons_of_mem _ (List.mem_cons_self))))))))))))) ?_
  refine all_cons (dg_8_ok w _ (List.mem_cons_of_mem _ (List.mem_cons_of_mem _ (List.mem_cons_of_mem _ (List.mem_cons_of_mem _ (List.mem_cons_of_mem _ (List.mem_cons_of_mem _ (List.mem_cons_of_mem _ (List.mem_cons_of_mem _ (List.mem_cons_of_mem _ (List.mem_cons_of_mem _ (List.mem_cons_of_mem _ (List.mem_cons_of_mem _ (List.mem_cons_self)))))))))))))) ?_
  refine all_cons (dg_8_ok w _ (List.mem_cons_of_mem _ (List.mem_cons_of_mem _ (List.mem_cons_of_mem _ (List.mem_cons_of_mem _ (List.mem_cons_of_mem _ (List.mem_cons_of_mem _ (List.mem_cons_of_mem _ (List.mem_cons_of_mem _ (List.mem_cons_of_mem _ (List.mem_cons_of_mem _ (List.mem_cons_of_mem _ (List.mem_cons_of_mem _ (List.mem_cons_of_mem _ (List.mem_cons_self))))))))))))))) ?_
  refine all_cons (dg_8_ok w _ (List.mem_cons_of_mem _ (List.mem_cons_of_mem _ (List.mem_cons_of_mem _ (List.mem_cons_of_mem _ (List.mem_cons_of_mem _ (List.mem_cons_of_mem _ (List.mem_cons_of_mem _ (List.mem_cons_of_mem _ (List.mem_cons_of_mem _ (List.mem_cons_of_mem _ (List.mem_cons_of_mem _ (List.mem_cons_of_mem _ (List.mem_cons_of_mem _ (List.mem_cons_of_mem _ (List.mem_cons_self)))))))))))))))) ?_
  refine all_cons (dg_8_ok w _ (List.mem_cons_of_mem _ (List.mem_cons_of_mem _ (List.mem_cons_of_mem _ (List.mem_cons_of_mem _ (List.mem_cons_of_mem _ (List.mem_cons_of_mem _ (List.mem_cons_of_mem _ (List.mem_cons_of_mem _ (List.mem_cons_of_mem _ (List.mem_cons_of_mem _ (List.mem_cons_of_mem _ (List.mem_cons_of_mem _ (List.mem_cons_of_mem _ (List.mem_cons_of_mem _ (List.mem_cons_of_mem _ (List.mem_cons_self))))))))))))))))) ?_
  refine all_cons (bd_3 (by simp) (by simp) w) ?_
  refine all_cons (bd_8 (by simp) (by simp) w) ?_
  refine all_cons (bd_9 (by simp) (by simp) w) ?_
  refine all_cons (bd_8 (by simp) (by simp) w) ?_
  refine all_cons (bd_9 (by simp) (by simp) w) ?_
  refine all_cons (bd_8 (by simp) (by simp) w) ?_
  refine all_cons (bd_9 (by simp) (by simp) w) ?_
  refine all_cons (dg_8_ok w _ (List.mem_cons_of_mem _ (List.mem_cons_of_mem _ (List.mem_cons_of_mem _ (List.mem_cons_of_mem _ (List.mem_cons_of_mem _ (List.mem_cons_of_mem _ (List.mem_cons_of_mem _ (List.mem_cons_of_mem _ (List.mem_cons_of_mem _ (List.mem_cons_of_mem _ (List.mem_cons_of_mem _ (List.mem_cons_of_mem _ (List.mem_cons_of_mem _ (List.mem_cons_of_mem _ (List.mem_cons_of_mem _ (List.mem_cons_of_mem _ (List.mem_cons_self)))))))))))))))))) ?_
  refine all_cons (dg_8_ok w _ (List.mem_cons_of_mem _ (List.mem_cons_of_mem _ (List.mem_cons_of_mem _ (List.mem_cons_of_mem _ (List.mem_cons_of_mem _ (List.mem_cons_of_mem _ (List.mem_cons_of_mem _ (List.mem_cons_of_mem _ (List.mem_cons_of_mem _ (List.mem_cons_of_mem _ (List.mem_cons_of_mem _ (List.mem_cons_of_mem _ (List.mem_cons_of_mem _ (List.mem_cons_of_mem _ (List.mem_cons_of_mem _ (List.mem_cons_of_mem _ (List.mem_cons_of_mem _ (List.mem_cons_self))))))))))))))))))) ?_
  refine all_cons (dg_8_ok w _ (List.mem_cons_of_mem _ (List.mem_cons_of_mem _ (List.mem_cons_of_mem _ (List.mem_cons_of_mem _ (List.mem_cons_of_mem _ (List.mem_cons_of_mem _ (List.mem_cons_of_mem _ (List.mem_cons_of_mem _ (List.mem_cons_of_mem _ (List.mem_cons_of_mem _ (List.mem_cons_of_mem _ (List.mem_cons_of_mem _ (List.mem_cons_of_mem _ (List.mem_cons_of_mem _ (List.mem_cons_of_mem _ (List.mem_cons_of_mem _ (List.mem_cons_of_mem _ (List.mem_cons_of_mem _ (List.mem_cons_self)))))))))))))))))))) ?_
  refine all_cons (dg_8_ok w _ (List.mem_cons_of_mem _ (List.mem_cons_of_mem _ (List.mem_cons_of_mem _ (List.mem_cons_of_mem _ (List.mem_cons_of_mem _ (List.mem_cons_of_mem _ (List.mem_cons_of_mem _ (List.mem_cons_of_mem _ (List.mem_cons_of_mem _ (List.mem_cons_of_mem _ (List.mem_cons_of_mem _ (List.mem_cons_of_mem _ (List.mem_cons_of_mem _ (List.mem_cons_of_mem _ (List.mem_cons_of_mem _ (List.mem_cons_of_mem _ (List.mem_cons_of_mem _ (List.mem_cons_of_mem _ (List.mem_cons_of_mem _ (List.mem_cons_self))))))))))))))))))))) ?_
  refine all_cons (dg_8_ok w _ (List.mem_cons_of_mem _ (List.mem_cons_of_mem _ (List.mem_cons_of_mem _ (List.mem_cons_of_mem _ (List.mem_cons_of_mem _ (List.mem_cons_of_mem _ (List.mem_cons_of_mem _ (List.mem_cons_of_mem _ (List.mem_cons_of_mem _ (List.mem_cons_of_mem _ (List.mem_cons_of_mem _ (List.mem_cons_of_mem _ (List.mem_cons_of_mem _ (List.mem_cons_of_mem _ (List.mem_cons_of_mem _ (List.mem_cons_of_mem _ (List.mem_cons_of_mem _ (List.mem_cons_of_mem _ (List.mem_cons_of_mem _ (List.mem_cons_of_mem _ (List.mem_cons_self)))))))))))))))))))))) ?_
  refine all_cons (dg_8_ok w _ (List.mem_cons_of_mem _ (List.mem_cons_of_mem _ (List.mem_cons_of_mem _ (List.mem_cons_of_mem _ (List.mem_cons_of_mem _ (List.mem_cons_of_mem _ (List.mem_cons_of_mem _ (List.mem_cons_of_mem _ (List.mem_cons_of_mem _ (List.mem_cons_of_mem _ (List.mem_cons_of_mem _ (List.mem_cons_of_mem _ (List.mem_cons_of_mem _ (List.mem_cons_of_mem _ (List.mem_cons_of_mem _ (List.mem_cons_of_mem _ (List.mem_cons_of_mem _ (List.mem_cons_of_mem _ (List.mem_cons_of_mem _ (List.mem_cons_of_mem _ (List.mem_cons_of_mem _ (List.mem_cons_self))))))))))))))))))))))) ?_
  refine all_cons (dg_8_ok w _ (List.mem_cons_of_mem _ (List.mem_cons_of_mem _ (List.mem_cons_of_mem _ (List.mem_cons_of_mem _ (List.mem_cons_of_mem _ (List.mem_cons_of_mem _ (List.mem_cons_of_mem _ (List.mem_cons_of_mem _ (List.mem_cons_of_mem _ (List.mem_cons_of_mem _ (List.mem_cons_of_mem _ (List.mem_cons_of_mem _ (List.mem_cons_of_mem _ (List.mem_cons_of_mem _ (List.mem_cons_of_mem _ (List.mem_cons_of_mem _ (List.mem_cons_of_mem _ (List.mem_cons_of_mem _ (List.mem_cons_of_mem _ (List.mem_cons_of_mem _ (List.mem_cons_of_mem _ (List.mem_cons_of_mem _ (List.mem_cons_self)))))))))))))))))))))))) ?_
  refine all_cons (dg_9_ok w _ (List.mem_cons_self)) ?_
  refine all_cons (dg_9_ok w _ (List.mem_cons_of_mem _ (List.mem_cons_self))) ?_
  refine all_cons (dg_10_ok w _ (List.mem_cons_self)) ?_
  refine all_cons (dg_9_ok w _ (List.mem_cons_of_mem _ (List.mem_cons_of_mem _ (List.mem_cons_self)))) ?_
  refine all_cons (da_152 w) ?_
  refine all_cons (da_153 w) ?_
  refine all_cons (da_154 w) ?_
  refine all_cons (da_155 w) ?_
  refine all_cons (da_156 w) ?_
  refine all_cons (dg_11_ok w _ (List.mem_cons_self)) ?_
  refine all_cons (dg_11_ok w _ (List.mem_cons_of_mem _ (List.mem_cons_self))) ?_
  exact all_nil
theorem del_false_false_ok : CtrOk Tryd.prog IDl 3 (delK false false) := .any (ctxS_ok bookDl_ok) (by kernel_rfl) del_false_false_run fun w => del_false_false_all w
theorem del_false_true_ok : CtrOk Tryd.prog IDl 3 (delK false true) := allAny_ok (C := cDl) (l := [delK false true]) (f := 100) (ctxS_ok bookDl_ok) (by kernel_rfl) (by kernel_rfl) _ List.mem_cons_self
theorem del_true_false_ok : CtrOk Tryd.prog IDl 3 (delK true false) := allAny_ok (C := cDl) (l := [delK true false]) (f := 100) (ctxS_ok bookDl_ok) (by kernel_rfl) (by kernel_rfl) _ List.mem_cons_self
theorem del_true_true_ok : CtrOk Tryd.prog IDl 3 (delK true true) := allAny_ok (C := cDl) (l := [delK true true]) (f := 100) (ctxS_ok bookDl_ok) (by kernel_rfl) (by kernel_rfl) _ List.mem_cons_self
end Go.Proofs.YtkphkjffcpkhjaaDoor
end
