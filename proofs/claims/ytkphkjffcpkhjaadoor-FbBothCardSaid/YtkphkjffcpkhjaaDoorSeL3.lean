import Derived.Test.YtkphkjffcpkhjaaDoorSeL2
import Derived.Test.YtkphkjffcpkhjaaDoorSeS5
/-! FbCounts: the walk. -/
noncomputable section
set_option linter.unusedSimpArgs false
set_option linter.unusedVariables false
namespace Go.SE
/-- what the counters' laws ask for, and what holds ahead of each round: a number of an INT's range; a number that is not below 0. -/
def pCnt (k : Nat) (l : List U) : Prop :=
  match k, l with
  | 5, [x] => ∃ n, x = .i n ∧ -32768 ≤ n ∧ n ≤ 32767
  | 6, [i] => 0 ≤ i.asI
  | _, _ => True
def IC : Interp := ⟨fbF, pCnt⟩
theorem den_f2 (ρ : Env) (k : Nat) (a b : U) : O2.den ρ (.f k) a b = ρ.f k [a, b] := rfl
theorem den_fldF (ρ : Env) (j : Nat) (z : List Int → List Int → Int → Int → Int → Int → List Int) (l : List U) : O1.den ρ (.fld j) (stepZ z l) = .i ((z ((l.getD 0 default).asL.map U.asI) ((l.getD 1 default).asL.map U.asI) (l.getD 2 default).asI (l.getD 3 default).asI (l.getD 4 default).asI (l.getD 5 default).asI).getD j 0) := fld_step ρ j z l
variable {P : Program} {I : Interp}
/-- a contract whose outcome is one of some numbers, said number by number. -/
theorem CtrOk.cases {i : Nat} {c : Ctr} (hc : CtrOk P I i c) {k : IntKind} {x : X} {h : H} (ho : c.outs = [(.int k x, h)]) {l : List Nat} (hl : ∀ ρ : Env, ρ.f = I.f → ∃ n ∈ l, (x.den ρ).asI = (n : Int)) :
    CtrOk P I i { c with outs := l.map fun (j : Nat) => (SV.int k (.n (j : Int)), h) } := by
  intro w0 hw B ρ σ w vs hr hv
  refine (hc w0 hw B ρ σ w vs hr hv).mono ?_
  rintro e w' ⟨q, hq, ρ', σ', v, rfl, h1, h2, h3, h4⟩
  rw [ho, List.mem_singleton] at hq
  subst hq
  obtain ⟨n, hn, hx⟩ := hl ρ' (h1.f.trans (hr.now.ip.1.trans (by rw [hw])))
  refine ⟨_, List.mem_map_of_mem hn, ρ', σ', v, rfl, h1, h2, h3, fun ρ2 σ2 _ => ?_⟩
  have := h4 _ _ (Ext.refl _ _ _)
  simp only [List.map_cons, List.map_nil, SV.val, List.cons.injEq, and_true] at this ⊢
  rw [← this, hx]; rfl
end Go.SE
namespace Go.Proofs.YtkphkjffcpkhjaaDoor
open Go Go.SE
set_option maxRecDepth 1000000
def place2_ob : List Obl := [⟨[(.x (.o .lt (.o .rem (.v 0) (.n 2)) (.n 0)))], (.q (.o (.f 20) (.v 0) (.n 2)) (.u (.wrap .i64) (.o .add (.o .rem (.v 0) (.n 2)) (.n 2))))⟩,
  ⟨[(.x (.u .not (.o .lt (.o .rem (.v 0) (.n 2)) (.n 0))))], (.q (.o (.f 20) (.v 0) (.n 2)) (.o .rem (.v 0) (.n 2)))⟩]
theorem place2_run : runOne cA 100 14 (placeK 2) (((placeK 2)).outs.headD (.nilp, ((placeK 2)).h)) = some place2_ob := by kernel_rfl
def place10_ob : List Obl := [⟨[(.x (.o .lt (.o .rem (.v 0) (.n 10)) (.n 0)))], (.q (.o (.f 20) (.v 0) (.n 10)) (.u (.wrap .i64) (.o .add (.o .rem (.v 0) (.n 10)) (.n 10))))⟩,
  ⟨[(.x (.u .not (.o .lt (.o .rem (.v 0) (.n 10)) (.n 0))))], (.q (.o (.f 20) (.v 0) (.n 10)) (.o .rem (.v 0) (.n 10)))⟩]
theorem place10_run : runOne cA 100 14 (placeK 10) (((placeK 10)).outs.headD (.nilp, ((placeK 10)).h)) = some place10_ob := by kernel_rfl
theorem place2_all (I : Interp) (hI : ∀ u, I.f 20 u = fbF 20 u) (w : World) : ∀ o ∈ place2_ob, o.ok ⟨w, I⟩ := by
  unfold place2_ob
  simp only [List.forall_mem_cons, List.not_mem_nil, false_implies, implies_true, and_true]
  refine ⟨?_, ?_⟩
  all_goals
    intro ρ hf _ hfs
    have hF : ∀ u, ρ.f 20 u = fbF 20 u := fun u => by rw [hf]; exact hI u
    simp only [List.forall_mem_cons, List.not_mem_nil, false_implies, implies_true, and_true, Fact.ok, X.den, den_not, den_b2i, den_wrap, den_get, den_lt, den_le, den_eq, den_eqb, den_min, den_max, den_add, den_sub, den_len, den_cons, den_or, den_and, den_ite, den_fld, den_rem, ite_asI, asB_b, asI_i, asL_l, Bool.not_eq_true', ilt_iff, ile_iff, ieq_iff, ilt_f, ile_f, ieq_f, w32_def, w16_def, w64_def] at hfs
    simp only [Fact.ok, X.den, den_not, den_b2i, den_wrap, den_get, den_lt, den_le, den_eq, den_eqb, den_min, den_max, den_add, den_sub, den_len, den_cons, den_or, den_and, den_ite, den_fld, den_rem, ite_asI, asB_b, asI_i, asL_l, Bool.not_eq_true', ilt_iff, ile_iff, ieq_iff, ilt_f, ile_f, ieq_f, w32_def, w16_def, w64_def, den_f2, hF, fbF]
    refine congrArg U.i ?_
    have h2 := Int.tmod_def (ρ.v 0).asI 2
    have h3 := Int.emod_def (ρ.v 0).asI 2
    have h4 : (ρ.v 0).asI.tmod 2 = (ρ.v 0).asI % 2 ∨ (ρ.v 0).asI.tmod 2 = (ρ.v 0).asI % 2 - 2 := by
      rcases Int.lt_or_le (ρ.v 0).asI 0 with h | h
      · rw [Int.tmod_eq_emod]; split <;> omega
      · left; exact Int.tmod_eq_emod_of_nonneg h
    first | (rw [w64_id (by omega) (by omega)]; omega) | omega
theorem place2_ok {I : Interp} (hI : ∀ u, I.f 20 u = fbF 20 u) : CtrOk Tryd.prog I 14 (placeC 2) := by
  have h0 : CtxOk Tryd.prog I cA := ctx_ok (by intro q hq; cases hq)
  have h1 : CtrOk Tryd.prog I 14 (placeK 2) := .one h0 (by kernel_rfl) place2_run List.mem_cons_self (place2_all I hI)
  refine h1.cases (l := List.range 2) rfl fun ρ hf => ?_
  have h2 : ((X.den ρ (.o (.f 20) (.v 0) (.n 2))).asI) = (ρ.v 0).asI % 2 := by simp only [X.den, den_f2, hf, hI, fbF, asI_i]
  refine ⟨((ρ.v 0).asI % 2).toNat, by rw [List.mem_range]; omega, h2.trans (by omega)⟩
theorem place10_all (I : Interp) (hI : ∀ u, I.f 20 u = fbF 20 u) (w : World) : ∀ o ∈ place10_ob, o.ok ⟨w, I⟩ := by
  unfold place10_ob
  simp only [List.forall_mem_cons, List.not_mem_nil, false_implies, implies_true, and_true]
  refine ⟨?_, ?_⟩
  all_goals
    intro ρ hf _ hfs
    have hF : ∀ u, ρ.f 20 u = fbF 20 u := fun u => by rw [hf]; exact hI u
    simp only [List.forall_mem_cons, List.not_mem_nil, false_implies, implies_true, and_true, Fact.ok, X.den, den_not, den_b2i, den_wrap, den_get, den_lt, den_le, den_eq, den_eqb, den_min, den_max, den_add, den_sub, den_len, den_cons, den_or, den_and, den_ite, den_fld, den_rem, ite_asI, asB_b, asI_i, asL_l, Bool.not_eq_true', ilt_iff, ile_iff, ieq_iff, ilt_f, ile_f, ieq_f, w32_def, w16_def, w64_def] at hfs
    simp only [Fact.ok, X.den, den_not, den_b2i, den_wrap, den_get, den_lt, den_le, den_eq, den_eqb, den_min, den_max, den_add, den_sub, den_len, den_cons, den_or, den_and, den_ite, den_fld, den_rem, ite_asI, asB_b, asI_i, asL_l, Bool.not_eq_true', ilt_iff, ile_iff, ieq_iff, ilt_f, ile_f, ieq_f, w32_def, w16_def, w64_def, den_f2, hF, fbF]
    refine congrArg U.i ?_
    have h2 := Int.tmod_def (ρ.v 0).asI 10
    have h3 := Int.emod_def (ρ.v 0).asI 10
    have h4 : (ρ.v 0).asI.tmod 10 = (ρ.v 0).asI % 10 ∨ (ρ.v 0).asI.tmod 10 = (ρ.v 0).asI % 10 - 10 := by
      rcases Int.lt_or_le (ρ.v 0).asI 0 with h | h
      · rw [Int.tmod_eq_emod]; split <;> omega
      · left; exact Int.tmod_eq_emod_of_nonneg h
    first | (rw [w64_id (by omega) (by omega)]; omega) | omega
theorem place10_ok {I : Interp} (hI : ∀ u, I.f 20 u = fbF 20 u) : CtrOk Tryd.prog I 14 (placeC 10) := by
  have h0 : CtxOk Tryd.prog I cA := ctx_ok (by intro q hq; cases hq)
  have h1 : CtrOk Tryd.prog I 14 (placeK 10) := .one h0 (by kernel_rfl) place10_run List.mem_cons_self (place10_all I hI)
  refine h1.cases (l := List.range 10) rfl fun ρ hf => ?_
  have h2 : ((X.den ρ (.o (.f 20) (.v 0) (.n 10))).asI) = (ρ.v 0).asI % 10 := by simp only [X.den, den_f2, hf, hI, fbF, asI_i]
  refine ⟨((ρ.v 0).asI % 10).toNat, by rw [List.mem_range]; omega, h2.trans (by omega)⟩
def cntU_ob : List Obl := [⟨[(.p 5 [(.v 2)]), (.p 5 [(.v 6)])], (.q (.u .b2i (.o .le (.v 2) (.o .add (.c .ite (.v 1) (.n 0) (.c .ite (.o .and (.v 0) (.u .not (.v 4))) (.o .min (.u (.wrap .i64) (.o .add (.v 6) (.n 1))) (.n 32767)) (.v 6))) (.n 0)))) (.u (.fld 0) (.u (.f 4) (.o .cons (.o .cons (.u .b2i (.v 0)) (.o .cons (.u .b2i (.v 1)) (.o .cons (.v 2) .nil))) (.o .cons (.o .cons (.v 5) (.o .cons (.v 6) .nil)) (.o .cons (.u .b2i (.v 4)) (.o .cons (.n 0) (.o .cons (.n 0) (.o .cons (.v 8) .nil)))))))))⟩,
  ⟨[(.p 5 [(.v 2)]), (.p 5 [(.v 6)])], (.q (.o .add (.c .ite (.v 1) (.n 0) (.c .ite (.o .and (.v 0) (.u .not (.v 4))) (.o .min (.u (.wrap .i64) (.o .add (.v 6) (.n 1))) (.n 32767)) (.v 6))) (.n 0)) (.u (.fld 1) (.u (.f 4) (.o .cons (.o .cons (.u .b2i (.v 0)) (.o .cons (.u .b2i (.v 1)) (.o .cons (.v 2) .nil))) (.o .cons (.o .cons (.v 5) (.o .cons (.v 6) .nil)) (.o .cons (.u .b2i (.v 4)) (.o .cons (.n 0) (.o .cons (.n 0) (.o .cons (.v 8) .nil)))))))))⟩,
  ⟨[(.p 5 [(.v 2)]), (.p 5 [(.v 6)])], (.q (.u .b2i (.v 0)) (.u (.fld 2) (.u (.f 4) (.o .cons (.o .cons (.u .b2i (.v 0)) (.o .cons (.u .b2i (.v 1)) (.o .cons (.v 2) .nil))) (.o .cons (.o .cons (.v 5) (.o .cons (.v 6) .nil)) (.o .cons (.u .b2i (.v 4)) (.o .cons (.n 0) (.o .cons (.n 0) (.o .cons (.v 8) .nil)))))))))⟩,
  ⟨[(.p 5 [(.v 2)]), (.p 5 [(.v 6)])], (.q (.n 0) (.u (.fld 3) (.u (.f 4) (.o .cons (.o .cons (.u .b2i (.v 0)) (.o .cons (.u .b2i (.v 1)) (.o .cons (.v 2) .nil))) (.o .cons (.o .cons (.v 5) (.o .cons (.v 6) .nil)) (.o .cons (.u .b2i (.v 4)) (.o .cons (.n 0) (.o .cons (.n 0) (.o .cons (.v 8) .nil)))))))))⟩,
  ⟨[(.p 5 [(.v 2)]), (.p 5 [(.v 6)])], (.q (.n 0) (.u (.fld 4) (.u (.f 4) (.o .cons (.o .cons (.u .b2i (.v 0)) (.o .cons (.u .b2i (.v 1)) (.o .cons (.v 2) .nil))) (.o .cons (.o .cons (.v 5) (.o .cons (.v 6) .nil)) (.o .cons (.u .b2i (.v 4)) (.o .cons (.n 0) (.o .cons (.n 0) (.o .cons (.v 8) .nil)))))))))⟩]
theorem cntU_re : reOne (stepK sCTU 4 2 false false) (cntK true) (((cntK true)).outs.headD (.nilp, ((cntK true)).h)) = some cntU_ob := by kernel_rfl
def cntD_ob : List Obl := [⟨[(.p 5 [(.v 2)]), (.p 5 [(.v 6)])], (.q (.u .b2i (.o .le (.o .add (.c .ite (.v 1) (.v 2) (.c .ite (.o .and (.v 0) (.u .not (.v 4))) (.o .max (.u (.wrap .i64) (.o .sub (.v 6) (.n 1))) (.n (-32768))) (.v 6))) (.n 0)) (.n 0))) (.u (.fld 0) (.u (.f 5) (.o .cons (.o .cons (.u .b2i (.v 0)) (.o .cons (.u .b2i (.v 1)) (.o .cons (.v 2) .nil))) (.o .cons (.o .cons (.v 5) (.o .cons (.v 6) .nil)) (.o .cons (.u .b2i (.v 4)) (.o .cons (.n 0) (.o .cons (.n 0) (.o .cons (.v 8) .nil)))))))))⟩,
  ⟨[(.p 5 [(.v 2)]), (.p 5 [(.v 6)])], (.q (.o .add (.c .ite (.v 1) (.v 2) (.c .ite (.o .and (.v 0) (.u .not (.v 4))) (.o .max (.u (.wrap .i64) (.o .sub (.v 6) (.n 1))) (.n (-32768))) (.v 6))) (.n 0)) (.u (.fld 1) (.u (.f 5) (.o .cons (.o .cons (.u .b2i (.v 0)) (.o .cons (.u .b2i (.v 1)) (.o .cons (.v 2) .nil))) (.o .cons (.o .cons (.v 5) (.o .cons (.v 6) .nil)) (.o .cons (.u .b2i (.v 4)) (.o .cons (.n 0) (.o .cons (.n 0) (.o .cons (.v 8) .nil)))))))))⟩,
  ⟨[(.p 5 [(.v 2)]), (.p 5 [(.v 6)])], (.q (.u .b2i (.v 0)) (.u (.fld 2) (.u (.f 5) (.o .cons (.o .cons (.u .b2i (.v 0)) (.o .cons (.u .b2i (.v 1)) (.o .cons (.v 2) .nil))) (.o .cons (.o .cons (.v 5) (.o .cons (.v 6) .nil)) (.o .cons (.u .b2i (.v 4)) (.o .cons (.n 0) (.o .cons (.n 0) (.o .cons (.v 8) .nil)))))))))⟩,
  ⟨[(.p 5 [(.v 2)]), (.p 5 [(.v 6)])], (.q (.n 0) (.u (.fld 3) (.u (.f 5) (.o .cons (.o .cons (.u .b2i (.v 0)) (.o .cons (.u .b2i (.v 1)) (.o .cons (.v 2) .nil))) (.o .cons (.o .cons (.v 5) (.o .cons (.v 6) .nil)) (.o .cons (.u .b2i (.v 4)) (.o .cons (.n 0) (.o .cons (.n 0) (.o .cons (.v 8) .nil)))))))))⟩,
  ⟨[(.p 5 [(.v 2)]), (.p 5 [(.v 6)])], (.q (.n 0) (.u (.fld 4) (.u (.f 5) (.o .cons (.o .cons (.u .b2i (.v 0)) (.o .cons (.u .b2i (.v 1)) (.o .cons (.v 2) .nil))) (.o .cons (.o .cons (.v 5) (.o .cons (.v 6) .nil)) (.o .cons (.u .b2i (.v 4)) (.o .cons (.n 0) (.o .cons (.n 0) (.o .cons (.v 8) .nil)))))))))⟩]
theorem cntD_re : reOne (stepK sCTD 5 2 false false) (cntK false) (((cntK false)).outs.headD (.nilp, ((cntK false)).h)) = some cntD_ob := by kernel_rfl
theorem cntU_all (w : World) : ∀ o ∈ cntU_ob, o.ok ⟨w, IC⟩ := by
  unfold cntU_ob
  simp only [List.forall_mem_cons, List.not_mem_nil, false_implies, implies_true, and_true]
  refine ⟨?_, ?_, ?_, ?_, ?_⟩
  all_goals
    intro ρ hf hp hfs
    have hF : ∀ k u, ρ.f k u = fbF k u := fun k u => by rw [hf]; rfl
    have hP : ∀ k u, ρ.p k u = pCnt k u := fun k u => by rw [hp]; rfl
    simp only [List.forall_mem_cons, List.not_mem_nil, false_implies, implies_true, and_true, Fact.ok, hP, List.map_cons, List.map_nil, X.den, den_not, den_b2i, den_wrap, den_get, den_lt, den_le, den_eq, den_eqb, den_min, den_max, den_add, den_sub, den_len, den_cons, den_or, den_and, den_ite, den_fld, den_rem, ite_asI, asB_b, asI_i, asL_l, pCnt, Bool.not_eq_true', ilt_iff, ile_iff, ieq_iff, ilt_f, ile_f, ieq_f, w32_def, w16_def, w64_def] at hfs
    simp only [Fact.ok, hP, pCnt, X.den, den_not, den_b2i, den_wrap, den_get, den_lt, den_le, den_eq, den_eqb, den_min, den_max, den_add, den_sub, den_len, den_cons, den_or, den_and, den_ite, den_fldF, den_rem, ite_asI, asB_b, asI_i, asL_l, den_f1, hF, fbF, arg1, List.getD_cons_zero, List.getD_cons_succ, List.map_cons, List.map_nil, Bool.not_eq_true', ilt_iff, ile_iff, ieq_iff, ilt_f, ile_f, ieq_f, w32_def, w16_def, w64_def]
    clear hF hf hp hP
    obtain ⟨⟨pv, e2, r1, r2⟩, ⟨cv, e6, r3, r4⟩⟩ := hfs
    rw [e2, e6]
    have a1 := w16_id (n := pv) (by omega) (by omega)
    have a2 := w16_id (n := cv) (by omega) (by omega)
    have a3 := w64_id (n := cv + 1) (by omega) (by omega)
    have a4 := w64_id (n := cv - 1) (by omega) (by omega)
    have a5 : w32 1 = 1 := by decide
    simp only [ctuZ, nz, tr, asI_i, a1, a2, a3, a4, w32_zero, List.getD_cons_zero, List.getD_cons_succ]
    first
      | done
      | (refine congrArg U.i ?_
         cases (ρ.v 0).asB <;> cases (ρ.v 1).asB <;> cases (ρ.v 4).asB <;> simp [a5, w32_zero] <;> omega)
theorem cntD_all (w : World) : ∀ o ∈ cntD_ob, o.ok ⟨w, IC⟩ := by
  unfold cntD_ob
  simp only [List.forall_mem_cons, List.not_mem_nil, false_implies, implies_true, and_true]
  refine ⟨?_, ?_, ?_, ?_, ?_⟩
  all_goals
    intro ρ hf hp hfs
    have hF : ∀ k u, ρ.f k u = fbF k u := fun k u => by rw [hf]; rfl
    have hP : ∀ k u, ρ.p k u = pCnt k u := fun k u => by rw [hp]; rfl
    simp only [List.forall_mem_cons, List.not_mem_nil, false_implies, implies_true, and_true, Fact.ok, hP, List.map_cons, List.map_nil, X.den, den_not, den_b2i, den_wrap, den_get, den_lt, den_le, den_eq, den_eqb, den_min, den_max, den_add, den_sub, den_len, den_cons, den_or, den_and, den_ite, den_fld, den_rem, ite_asI, asB_b, asI_i, asL_l, pCnt, Bool.not_eq_true', ilt_iff, ile_iff, ieq_iff, ilt_f, ile_f, ieq_f, w32_def, w16_def, w64_def] at hfs
    simp only [Fact.ok, hP, pCnt, X.den, den_not, den_b2i, den_wrap, den_get, den_lt, den_le, den_eq, den_eqb, den_min, den_max, den_add, den_sub, den_len, den_cons, den_or, den_and, den_ite, den_fldF, den_rem, ite_asI, asB_b, asI_i, asL_l, den_f1, hF, fbF, arg1, List.getD_cons_zero, List.getD_cons_succ, List.map_cons, List.map_nil, Bool.not_eq_true', ilt_iff, ile_iff, ieq_iff, ilt_f, ile_f, ieq_f, w32_def, w16_def, w64_def]
    clear hF hf hp hP
    obtain ⟨⟨pv, e2, r1, r2⟩, ⟨cv, e6, r3, r4⟩⟩ := hfs
    rw [e2, e6]
    have a1 := w16_id (n := pv) (by omega) (by omega)
    have a2 := w16_id (n := cv) (by omega) (by omega)
    have a3 := w64_id (n := cv + 1) (by omega) (by omega)
    have a4 := w64_id (n := cv - 1) (by omega) (by omega)
    have a5 : w32 1 = 1 := by decide
    simp only [ctdZ, nz, tr, asI_i, a1, a2, a3, a4, w32_zero, List.getD_cons_zero, List.getD_cons_succ]
    first
      | done
      | (refine congrArg U.i ?_
         cases (ρ.v 0).asB <;> cases (ρ.v 1).asB <;> cases (ρ.v 4).asB <;> simp [a5, w32_zero] <;> omega)
theorem bookC_ok : BookOk Tryd.prog IC bookC := by
  intro q hq
  simp only [bookC, List.mem_cons, List.not_mem_nil, or_false] at hq
  rcases hq with rfl | rfl | rfl | rfl
  · simp only [List.forall_mem_cons, List.not_mem_nil, false_implies, implies_true, and_true]; exact known_ok rfl
  · simp only [List.forall_mem_cons, List.not_mem_nil, false_implies, implies_true, and_true]; exact place2_ok fun _ => rfl
  · exact rwrap_ok IC
  · simp only [List.forall_mem_cons, List.not_mem_nil, false_implies, implies_true, and_true]; exact ⟨(ctu_ff_ok fun _ => rfl).re cntU_re List.mem_cons_self cntU_all, (ctd_ff_ok fun _ => rfl).re cntD_re List.mem_cons_self cntD_all⟩
def cC : Ctx := ctxJ bookC lpCnt (jnCnt kpOf)
def cntsF_ob : List Obl := [⟨[(.x (.u .not (.o .lt (.n 80) (.u .len (.v 1)))))], (.p 5 [(.u (.wrap .i16) (.v 4))])⟩,
  ⟨[(.x (.u .not (.o .lt (.n 80) (.u .len (.v 1)))))], (.p 5 [(.u (.wrap .i16) (.v 3))])⟩,
  ⟨[(.x (.u .not (.o .lt (.n 80) (.u .len (.v 1)))))], (.p 6 [(.n 0)])⟩,
  ⟨[(.x (.o .lt (.v 7) (.u .len (.v 1)))), (.p 5 [(.v 5)]), (.p 5 [(.u (.wrap .i16) (.v 3))]), (.p 6 [(.v 7)]), (.x (.u .not (.o .lt (.n 80) (.u .len (.v 1)))))], (.x (.o .le (.n 0) (.v 7)))⟩,
  ⟨[(.x (.u (.fld 0) (.o .get (.v 1) (.v 7)))), (.x (.o .lt (.v 7) (.u .len (.v 1)))), (.p 5 [(.v 5)]), (.p 5 [(.u (.wrap .i16) (.v 3))]), (.p 6 [(.v 7)]), (.x (.u .not (.o .lt (.n 80) (.u .len (.v 1)))))], (.q (.u .b2i (.u (.fld 0) (.o .get (.v 1) (.v 7)))) (.n 1))⟩,
  ⟨[(.x (.u .not (.u (.fld 0) (.o .get (.v 1) (.v 7))))), (.x (.o .lt (.v 7) (.u .len (.v 1)))), (.p 5 [(.v 5)]), (.p 5 [(.u (.wrap .i16) (.v 3))]), (.p 6 [(.v 7)]), (.x (.u .not (.o .lt (.n 80) (.u .len (.v 1)))))], (.q (.u .b2i (.u (.fld 0) (.o .get (.v 1) (.v 7)))) (.n 0))⟩,
  ⟨[(.x (.u (.fld 1) (.o .get (.v 1) (.v 7)))), (.x (.o .lt (.v 7) (.u .len (.v 1)))), (.p 5 [(.v 5)]), (.p 5 [(.u (.wrap .i16) (.v 3))]), (.p 6 [(.v 7)]), (.x (.u .not (.o .lt (.n 80) (.u .len (.v 1)))))], (.q (.u .b2i (.u (.fld 1) (.o .get (.v 1) (.v 7)))) (.n 1))⟩,
  ⟨[(.x (.u .not (.u (.fld 1) (.o .get (.v 1) (.v 7))))), (.x (.o .lt (.v 7) (.u .len (.v 1)))), (.p 5 [(.v 5)]), (.p 5 [(.u (.wrap .i16) (.v 3))]), (.p 6 [(.v 7)]), (.x (.u .not (.o .lt (.n 80) (.u .len (.v 1)))))], (.q (.u .b2i (.u (.fld 1) (.o .get (.v 1) (.v 7)))) (.n 0))⟩,
  ⟨[(.x (.u (.fld 1) (.o .get (.v 1) (.v 7)))), (.x (.o .lt (.v 7) (.u .len (.v 1)))), (.p 5 [(.v 5)]), (.p 5 [(.u (.wrap .i16) (.v 3))]), (.p 6 [(.v 7)]), (.x (.u .not (.o .lt (.n 80) (.u .len (.v 1)))))], (.q (.o .add (.c .ite (.u (.fld 1) (.o .get (.v 1) (.v 7))) (.n 0) (.c .ite (.o .and (.u (.fld 0) (.o .get (.v 1) (.v 7))) (.u .not (.v 6))) (.o .min (.u (.wrap .i64) (.o .add (.v 5) (.n 1))) (.n 32767)) (.v 5))) (.n 0)) (.n 0))⟩,
  ⟨[(.x (.u .not (.v 6))), (.x (.u (.fld 0) (.o .get (.v 1) (.v 7)))), (.x (.u .not (.u (.fld 1) (.o .get (.v 1) (.v 7))))), (.x (.o .lt (.v 7) (.u .len (.v 1)))), (.p 5 [(.v 5)]), (.p 5 [(.u (.wrap .i16) (.v 3))]), (.p 6 [(.v 7)]), (.x (.u .not (.o .lt (.n 80) (.u .len (.v 1)))))], (.q (.o .add (.c .ite (.u (.fld 1) (.o .get (.v 1) (.v 7))) (.n 0) (.c .ite (.o .and (.u (.fld 0) (.o .get (.v 1) (.v 7))) (.u .not (.v 6))) (.o .min (.u (.wrap .i64) (.o .add (.v 5) (.n 1))) (.n 32767)) (.v 5))) (.n 0)) (.o .min (.u (.wrap .i64) (.o .add (.v 5) (.n 1))) (.n 32767)))⟩,
  ⟨[(.x (.u (.fld 0) (.o .get (.v 1) (.v 7)))), (.x (.v 6)), (.x (.u (.fld 0) (.o .get (.v 1) (.v 7)))), (.x (.u .not (.u (.fld 1) (.o .get (.v 1) (.v 7))))), (.x (.o .lt (.v 7) (.u .len (.v 1)))), (.p 5 [(.v 5)]), (.p 5 [(.u (.wrap .i16) (.v 3))]), (.p 6 [(.v 7)]), (.x (.u .not (.o .lt (.n 80) (.u .len (.v 1)))))], (.q (.o .add (.c .ite (.u (.fld 1) (.o .get (.v 1) (.v 7))) (.n 0) (.c .ite (.o .and (.u (.fld 0) (.o .get (.v 1) (.v 7))) (.u .not (.v 6))) (.o .min (.u (.wrap .i64) (.o .add (.v 5) (.n 1))) (.n 32767)) (.v 5))) (.n 0)) (.v 5))⟩,
  ⟨[(.x (.u .not (.u (.fld 0) (.o .get (.v 1) (.v 7))))), (.x (.u .not (.u (.fld 0) (.o .get (.v 1) (.v 7))))), (.x (.u .not (.u (.fld 1) (.o .get (.v 1) (.v 7))))), (.x (.o .lt (.v 7) (.u .len (.v 1)))), (.p 5 [(.v 5)]), (.p 5 [(.u (.wrap .i16) (.v 3))]), (.p 6 [(.v 7)]), (.x (.u .not (.o .lt (.n 80) (.u .len (.v 1)))))], (.q (.o .add (.c .ite (.u (.fld 1) (.o .get (.v 1) (.v 7))) (.n 0) (.c .ite (.o .and (.u (.fld 0) (.o .get (.v 1) (.v 7))) (.u .not (.v 6))) (.o .min (.u (.wrap .i64) (.o .add (.v 5) (.n 1))) (.n 32767)) (.v 5))) (.n 0)) (.v 5))⟩,
  ⟨[(.x (.o .eq (.o .add (.c .ite (.u (.fld 1) (.o .get (.v 1) (.v 7))) (.n 0) (.c .ite (.o .and (.u (.fld 0) (.o .get (.v 1) (.v 7))) (.u .not (.v 6))) (.o .min (.u (.wrap .i64) (.o .add (.v 5) (.n 1))) (.n 32767)) (.v 5))) (.n 0)) (.o .add (.c .ite (.u (.fld 1) (.o .get (.v 1) (.v 7))) (.n 0) (.c .ite (.o .and (.u (.fld 0) (.o .get (.v 1) (.v 7))) (.u .not (.v 6))) (.o .min (.u (.wrap .i64) (.o .add (.v 5) (.n 1))) (.n 32767)) (.v 5))) (.n 0)))), (.x (.o .lt (.v 7) (.u .len (.v 1)))), (.p 5 [(.v 5)]), (.p 5 [(.u (.wrap .i16) (.v 3))]), (.p 6 [(.v 7)]), (.x (.u .not (.o .lt (.n 80) (.u .len (.v 1)))))], (.x (.o .le (.n 0) (.o .sub (.u .len (.v 1)) (.u (.wrap .i64) (.o .add (.v 7) (.n 1))))))⟩,
  ⟨[(.x (.o .eq (.o .add (.c .ite (.u (.fld 1) (.o .get (.v 1) (.v 7))) (.n 0) (.c .ite (.o .and (.u (.fld 0) (.o .get (.v 1) (.v 7))) (.u .not (.v 6))) (.o .min (.u (.wrap .i64) (.o .add (.v 5) (.n 1))) (.n 32767)) (.v 5))) (.n 0)) (.o .add (.c .ite (.u (.fld 1) (.o .get (.v 1) (.v 7))) (.n 0) (.c .ite (.o .and (.u (.fld 0) (.o .get (.v 1) (.v 7))) (.u .not (.v 6))) (.o .min (.u (.wrap .i64) (.o .add (.v 5) (.n 1))) (.n 32767)) (.v 5))) (.n 0)))), (.x (.o .lt (.v 7) (.u .len (.v 1)))), (.p 5 [(.v 5)]), (.p 5 [(.u (.wrap .i16) (.v 3))]), (.p 6 [(.v 7)]), (.x (.u .not (.o .lt (.n 80) (.u .len (.v 1)))))], (.x (.o .lt (.o .sub (.u .len (.v 1)) (.u (.wrap .i64) (.o .add (.v 7) (.n 1)))) (.o .sub (.u .len (.v 1)) (.v 7))))⟩,
  ⟨[(.x (.o .eq (.o .add (.c .ite (.u (.fld 1) (.o .get (.v 1) (.v 7))) (.n 0) (.c .ite (.o .and (.u (.fld 0) (.o .get (.v 1) (.v 7))) (.u .not (.v 6))) (.o .min (.u (.wrap .i64) (.o .add (.v 5) (.n 1))) (.n 32767)) (.v 5))) (.n 0)) (.o .add (.c .ite (.u (.fld 1) (.o .get (.v 1) (.v 7))) (.n 0) (.c .ite (.o .and (.u (.fld 0) (.o .get (.v 1) (.v 7))) (.u .not (.v 6))) (.o .min (.u (.wrap .i64) (.o .add (.v 5) (.n 1))) (.n 32767)) (.v 5))) (.n 0)))), (.x (.o .lt (.v 7) (.u .len (.v 1)))), (.p 5 [(.v 5)]), (.p 5 [(.u (.wrap .i16) (.v 3))]), (.p 6 [(.v 7)]), (.x (.u .not (.o .lt (.n 80) (.u .len (.v 1)))))], (.p 5 [(.o .add (.c .ite (.u (.fld 1) (.o .get (.v 1) (.v 7))) (.n 0) (.c .ite (.o .and (.u (.fld 0) (.o .get (.v 1) (.v 7))) (.u .not (.v 6))) (.o .min (.u (.wrap .i64) (.o .add (.v 5) (.n 1))) (.n 32767)) (.v 5))) (.n 0))])⟩,
  ⟨[(.x (.o .eq (.o .add (.c .ite (.u (.fld 1) (.o .get (.v 1) (.v 7))) (.n 0) (.c .ite (.o .and (.u (.fld 0) (.o .get (.v 1) (.v 7))) (.u .not (.v 6))) (.o .min (.u (.wrap .i64) (.o .add (.v 5) (.n 1))) (.n 32767)) (.v 5))) (.n 0)) (.o .add (.c .ite (.u (.fld 1) (.o .get (.v 1) (.v 7))) (.n 0) (.c .ite (.o .and (.u (.fld 0) (.o .get (.v 1) (.v 7))) (.u .not (.v 6))) (.o .min (.u (.wrap .i64) (.o .add (.v 5) (.n 1))) (.n 32767)) (.v 5))) (.n 0)))), (.x (.o .lt (.v 7) (.u .len (.v 1)))), (.p 5 [(.v 5)]), (.p 5 [(.u (.wrap .i16) (.v 3))]), (.p 6 [(.v 7)]), (.x (.u .not (.o .lt (.n 80) (.u .len (.v 1)))))], (.p 6 [(.u (.wrap .i64) (.o .add (.v 7) (.n 1)))])⟩,
  ⟨[(.x (.u .not (.o .lt (.n 80) (.u .len (.v 1)))))], (.p 5 [(.u (.wrap .i16) (.v 4))])⟩,
  ⟨[(.x (.u .not (.o .lt (.n 80) (.u .len (.v 1)))))], (.p 5 [(.u (.wrap .i16) (.v 3))])⟩,
  ⟨[(.x (.u .not (.o .lt (.n 80) (.u .len (.v 1)))))], (.p 6 [(.n 0)])⟩,
  ⟨[(.x (.o .lt (.v 7) (.u .len (.v 1)))), (.p 5 [(.v 5)]), (.p 5 [(.u (.wrap .i16) (.v 3))]), (.p 6 [(.v 7)]), (.x (.u .not (.o .lt (.n 80) (.u .len (.v 1)))))], (.x (.o .le (.n 0) (.v 7)))⟩,
  ⟨[(.x (.u (.fld 0) (.o .get (.v 1) (.v 7)))), (.x (.o .lt (.v 7) (.u .len (.v 1)))), (.p 5 [(.v 5)]), (.p 5 [(.u (.wrap .i16) (.v 3))]), (.p 6 [(.v 7)]), (.x (.u .not (.o .lt (.n 80) (.u .len (.v 1)))))], (.q (.u .b2i (.u (.fld 0) (.o .get (.v 1) (.v 7)))) (.n 1))⟩,
  ⟨[(.x (.u .not (.u (.fld 0) (.o .get (.v 1) (.v 7))))), (.x (.o .lt (.v 7) (.u .len (.v 1)))), (.p 5 [(.v 5)]), (.p 5 [(.u (.wrap .i16) (.v 3))]), (.p 6 [(.v 7)]), (.x (.u .not (.o .lt (.n 80) (.u .len (.v 1)))))], (.q (.u .b2i (.u (.fld 0) (.o .get (.v 1) (.v 7)))) (.n 0))⟩,
  ⟨[(.x (.u (.fld 1) (.o .get (.v 1) (.v 7)))), (.x (.o .lt (.v 7) (.u .len (.v 1)))), (.p 5 [(.v 5)]), (.p 5 [(.u (.wrap .i16) (.v 3))]), (.p 6 [(.v 7)]), (.x (.u .not (.o .lt (.n 80) (.u .len (.v 1)))))], (.q (.u .b2i (.u (.fld 1) (.o .get (.v 1) (.v 7)))) (.n 1))⟩,
  ⟨[(.x (.u .not (.u (.fld 1) (.o .get (.v 1) (.v 7))))), (.x (.o .lt (.v 7) (.u .len (.v 1)))), (.p 5 [(.v 5)]), (.p 5 [(.u (.wrap .i16) (.v 3))]), (.p 6 [(.v 7)]), (.x (.u .not (.o .lt (.n 80) (.u .len (.v 1)))))], (.q (.u .b2i (.u (.fld 1) (.o .get (.v 1) (.v 7)))) (.n 0))⟩,
  ⟨[(.x (.u (.fld 1) (.o .get (.v 1) (.v 7)))), (.x (.o .lt (.v 7) (.u .len (.v 1)))), (.p 5 [(.v 5)]), (.p 5 [(.u (.wrap .i16) (.v 3))]), (.p 6 [(.v 7)]), (.x (.u .not (.o .lt (.n 80) (.u .len (.v 1)))))], (.q (.o .add (.c .ite (.u (.fld 1) (.o .get (.v 1) (.v 7))) (.u (.wrap .i16) (.v 3)) (.c .ite (.o .and (.u (.fld 0) (.o .get (.v 1) (.v 7))) (.u .not (.v 6))) (.o .max (.u (.wrap .i64) (.o .sub (.v 5) (.n 1))) (.n (-32768))) (.v 5))) (.n 0)) (.u (.wrap .i16) (.v 3)))⟩,
  ⟨[(.x (.u (.fld 0) (.o .get (.v 1) (.v 7)))), (.x (.u .not (.v 6))), (.x (.u (.fld 0) (.o .get (.v 1) (.v 7)))), (.x (.u .not (.u (.fld 1) (.o .get (.v 1) (.v 7))))), (.x (.o .lt (.v 7) (.u .len (.v 1)))), (.p 5 [(.v 5)]), (.p 5 [(.u (.wrap .i16) (.v 3))]), (.p 6 [(.v 7)]), (.x (.u .not (.o .lt (.n 80) (.u .len (.v 1)))))], (.q (.o .add (.c .ite (.u (.fld 1) (.o .get (.v 1) (.v 7))) (.u (.wrap .i16) (.v 3)) (.c .ite (.o .and (.u (.fld 0) (.o .get (.v 1) (.v 7))) (.u .not (.v 6))) (.o .max (.u (.wrap .i64) (.o .sub (.v 5) (.n 1))) (.n (-32768))) (.v 5))) (.n 0)) (.o .max (.u (.wrap .i64) (.o .sub (.v 5) (.n 1))) (.n (-32768))))⟩,
  ⟨[(.x (.u (.fld 0) (.o .get (.v 1) (.v 7)))), (.x (.v 6)), (.x (.u (.fld 0) (.o .get (.v 1) (.v 7)))), (.x (.u .not (.u (.fld 1) (.o .get (.v 1) (.v 7))))), (.x (.o .lt (.v 7) (.u .len (.v 1)))), (.p 5 [(.v 5)]), (.p 5 [(.u (.wrap .i16) (.v 3))]), (.p 6 [(.v 7)]), (.x (.u .not (.o .lt (.n 80) (.u .len (.v 1)))))], (.q (.o .add (.c .ite (.u (.fld 1) (.o .get (.v 1) (.v 7))) (.u (.wrap .i16) (.v 3)) (.c .ite (.o .and (.u (.fld 0) (.o .get (.v 1) (.v 7))) (.u .not (.v 6))) (.o .max (.u (.wrap .i64) (.o .sub (.v 5) (.n 1))) (.n (-32768))) (.v 5))) (.n 0)) (.v 5))⟩,
  ⟨[(.x (.u .not (.u (.fld 0) (.o .get (.v 1) (.v 7))))), (.x (.u .not (.u (.fld 0) (.o .get (.v 1) (.v 7))))), (.x (.u .not (.u (.fld 1) (.o .get (.v 1) (.v 7))))), (.x (.o .lt (.v 7) (.u .len (.v 1)))), (.p 5 [(.v 5)]), (.p 5 [(.u (.wrap .i16) (.v 3))]), (.p 6 [(.v 7)]), (.x (.u .not (.o .lt (.n 80) (.u .len (.v 1)))))], (.q (.o .add (.c .ite (.u (.fld 1) (.o .get (.v 1) (.v 7))) (.u (.wrap .i16) (.v 3)) (.c .ite (.o .and (.u (.fld 0) (.o .get (.v 1) (.v 7))) (.u .not (.v 6))) (.o .max (.u (.wrap .i64) (.o .sub (.v 5) (.n 1))) (.n (-32768))) (.v 5))) (.n 0)) (.v 5))⟩,
  ⟨[(.x (.o .eq (.o .add (.c .ite (.u (.fld 1) (.o .get (.v 1) (.v 7))) (.u (.wrap .i16) (.v 3)) (.c .ite (.o .and (.u (.fld 0) (.o .get (.v 1) (.v 7))) (.u .not (.v 6))) (.o .max (.u (.wrap .i64) (.o .sub (.v 5) (.n 1))) (.n (-32768))) (.v 5))) (.n 0)) (.o .add (.c .ite (.u (.fld 1) (.o .get (.v 1) (.v 7))) (.u (.wrap .i16) (.v 3)) (.c .ite (.o .and (.u (.fld 0) (.o .get (.v 1) (.v 7))) (.u .not (.v 6))) (.o .max (.u (.wrap .i64) (.o .sub (.v 5) (.n 1))) (.n (-32768))) (.v 5))) (.n 0)))), (.x (.o .lt (.v 7) (.u .len (.v 1)))), (.p 5 [(.v 5)]), (.p 5 [(.u (.wrap .i16) (.v 3))]), (.p 6 [(.v 7)]), (.x (.u .not (.o .lt (.n 80) (.u .len (.v 1)))))], (.x (.o .le (.n 0) (.o .sub (.u .len (.v 1)) (.u (.wrap .i64) (.o .add (.v 7) (.n 1))))))⟩,
  ⟨[(.x (.o .eq (.o .add (.c .ite (.u (.fld 1) (.o .get (.v 1) (.v 7))) (.u (.wrap .i16) (.v 3)) (.c .ite (.o .and (.u (.fld 0) (.o .get (.v 1) (.v 7))) (.u .not (.v 6))) (.o .max (.u (.wrap .i64) (.o .sub (.v 5) (.n 1))) (.n (-32768))) (.v 5))) (.n 0)) (.o .add (.c .ite (.u (.fld 1) (.o .get (.v 1) (.v 7))) (.u (.wrap .i16) (.v 3)) (.c .ite (.o .and (.u (.fld 0) (.o .get (.v 1) (.v 7))) (.u .not (.v 6))) (.o .max (.u (.wrap .i64) (.o .sub (.v 5) (.n 1))) (.n (-32768))) (.v 5))) (.n 0)))), (.x (.o .lt (.v 7) (.u .len (.v 1)))), (.p 5 [(.v 5)]), (.p 5 [(.u (.wrap .i16) (.v 3))]), (.p 6 [(.v 7)]), (.x (.u .not (.o .lt (.n 80) (.u .len (.v 1)))))], (.x (.o .lt (.o .sub (.u .len (.v 1)) (.u (.wrap .i64) (.o .add (.v 7) (.n 1)))) (.o .sub (.u .len (.v 1)) (.v 7))))⟩,
  ⟨[(.x (.o .eq (.o .add (.c .ite (.u (.fld 1) (.o .get (.v 1) (.v 7))) (.u (.wrap .i16) (.v 3)) (.c .ite (.o .and (.u (.fld 0) (.o .get (.v 1) (.v 7))) (.u .not (.v 6))) (.o .max (.u (.wrap .i64) (.o .sub (.v 5) (.n 1))) (.n (-32768))) (.v 5))) (.n 0)) (.o .add (.c .ite (.u (.fld 1) (.o .get (.v 1) (.v 7))) (.u (.wrap .i16) (.v 3)) (.c .ite (.o .and (.u (.fld 0) (.o .get (.v 1) (.v 7))) (.u .not (.v 6))) (.o .max (.u (.wrap .i64) (.o .sub (.v 5) (.n 1))) (.n (-32768))) (.v 5))) (.n 0)))), (.x (.o .lt (.v 7) (.u .len (.v 1)))), (.p 5 [(.v 5)]), (.p 5 [(.u (.wrap .i16) (.v 3))]), (.p 6 [(.v 7)]), (.x (.u .not (.o .lt (.n 80) (.u .len (.v 1)))))], (.p 5 [(.o .add (.c .ite (.u (.fld 1) (.o .get (.v 1) (.v 7))) (.u (.wrap .i16) (.v 3)) (.c .ite (.o .and (.u (.fld 0) (.o .get (.v 1) (.v 7))) (.u .not (.v 6))) (.o .max (.u (.wrap .i64) (.o .sub (.v 5) (.n 1))) (.n (-32768))) (.v 5))) (.n 0))])⟩,
  ⟨[(.x (.o .eq (.o .add (.c .ite (.u (.fld 1) (.o .get (.v 1) (.v 7))) (.u (.wrap .i16) (.v 3)) (.c .ite (.o .and (.u (.fld 0) (.o .get (.v 1) (.v 7))) (.u .not (.v 6))) (.o .max (.u (.wrap .i64) (.o .sub (.v 5) (.n 1))) (.n (-32768))) (.v 5))) (.n 0)) (.o .add (.c .ite (.u (.fld 1) (.o .get (.v 1) (.v 7))) (.u (.wrap .i16) (.v 3)) (.c .ite (.o .and (.u (.fld 0) (.o .get (.v 1) (.v 7))) (.u .not (.v 6))) (.o .max (.u (.wrap .i64) (.o .sub (.v 5) (.n 1))) (.n (-32768))) (.v 5))) (.n 0)))), (.x (.o .lt (.v 7) (.u .len (.v 1)))), (.p 5 [(.v 5)]), (.p 5 [(.u (.wrap .i16) (.v 3))]), (.p 6 [(.v 7)]), (.x (.u .not (.o .lt (.n 80) (.u .len (.v 1)))))], (.p 6 [(.u (.wrap .i64) (.o .add (.v 7) (.n 1)))])⟩]
theorem cntsF_run : runOne cC 100 4 (cntsK false) (((cntsK false)).outs.headD (.nilp, ((cntsK false)).h)) = some cntsF_ob := by kernel_rfl
def cntsT_ob : List Obl := []
theorem cntsT_run : runOne cC 100 4 (cntsK true) (((cntsK true)).outs.headD (.nilp, ((cntsK true)).h)) = some cntsT_ob := by kernel_rfl
theorem cntsF_all (w : World) : ∀ o ∈ cntsF_ob, o.ok ⟨w, IC⟩ := by
  unfold cntsF_ob
  simp only [List.forall_mem_cons, List.not_mem_nil, false_implies, implies_true, and_true]
  refine ⟨?_, ?_, ?_, ?_, ?_, ?_, ?_, ?_, ?_, ?_, ?_, ?_, ?_, ?_, ?_, ?_, ?_, ?_, ?_, ?_, ?_, ?_, ?_, ?_, ?_, ?_, ?_, ?_, ?_, ?_, ?_, ?_⟩
  all_goals
    intro ρ hf hp hfs
    have hF : ∀ k u, ρ.f k u = fbF k u := fun k u => by rw [hf]; rfl
    have hP : ∀ k u, ρ.p k u = pCnt k u := fun k u => by rw [hp]; rfl
    simp only [List.forall_mem_cons, List.not_mem_nil, false_implies, implies_true, and_true, Fact.ok, hP, List.map_cons, List.map_nil, X.den, den_not, den_b2i, den_wrap, den_get, den_lt, den_le, den_eq, den_eqb, den_min, den_max, den_add, den_sub, den_len, den_cons, den_or, den_and, den_ite, den_fld, den_rem, ite_asI, asB_b, asI_i, asL_l, pCnt, Bool.not_eq_true', ilt_iff, ile_iff, ieq_iff, ilt_f, ile_f, ieq_f, w32_def, w16_def, w64_def] at hfs
    simp only [Fact.ok, hP, pCnt, X.den, den_not, den_b2i, den_wrap, den_get, den_lt, den_le, den_eq, den_eqb, den_min, den_max, den_add, den_sub, den_len, den_cons, den_or, den_and, den_ite, den_fld, den_rem, ite_asI, asB_b, asI_i, asL_l, den_f1, hF, fbF, arg1, List.getD_cons_zero, List.getD_cons_succ, List.map_cons, List.map_nil, Bool.not_eq_true', ilt_iff, ile_iff, ieq_iff, ilt_f, ile_f, ieq_f, w32_def, w16_def, w64_def]
    clear hF hf hp hP
    have r := w16_rng (ρ.v 3).asI
    first
      | exact ⟨_, rfl, w16_rng _⟩
      | (show (0 : Int) ≤ 0; omega)
      | skip
    all_goals
      have hcv : ∃ n, ρ.v 5 = .i n ∧ -32768 ≤ n ∧ n ≤ 32767 := by
        repeat (first | exact hfs.1 | (obtain ⟨_, hfs⟩ := hfs))
      have hi : 0 ≤ (ρ.v 7).asI := by
        repeat (first | exact hfs.1 | (obtain ⟨_, hfs⟩ := hfs))
      have hlt : (ρ.v 7).asI < ((ρ.v 1).asL.length : Int) := by
        repeat (first | exact hfs.1 | (obtain ⟨_, hfs⟩ := hfs))
      have h80 : ¬ 80 < ((ρ.v 1).asL.length : Int) := by
        repeat (first | exact hfs.1 | exact hfs | (obtain ⟨_, hfs⟩ := hfs))
      obtain ⟨cv, e5, r3, r4⟩ := hcv
      have e3 := w64_id (n := (ρ.v 7).asI + 1) (by omega) (by omega)
      have a3 := w64_id (n := cv + 1) (by omega) (by omega)
      have a4 := w64_id (n := cv - 1) (by omega) (by omega)
      rw [e5] at hfs
      try rw [e5]
      try simp only [asI_i, e3, a3, a4] at hfs
      try simp only [asI_i, e3, a3, a4]
      first
        | omega
        | skip
    all_goals
      first
        | refine ⟨_, rfl, ?_⟩
        | refine congrArg U.i ?_
    all_goals
      generalize ((U.asL ((ρ.v 1).asL.getD (ρ.v 7).asI.toNat default)).getD 0 default).asB = z0 at hfs ⊢
      generalize ((U.asL ((ρ.v 1).asL.getD (ρ.v 7).asI.toNat default)).getD 1 default).asB = z1 at hfs ⊢
      generalize (ρ.v 6).asB = q6 at hfs ⊢
      clear e3 a3 a4 hi hlt h80 e5
      cases z0 <;> cases z1 <;> cases q6 <;> simp at hfs ⊢ <;> omega
theorem counts_ok (nil : Bool) : CtrOk Tryd.prog IC 4 (cntsK nil) := by
  cases nil with
  | false => exact .one (ctxJ_ok bookC_ok) (by kernel_rfl) cntsF_run List.mem_cons_self cntsF_all
  | true => exact .one (ctxJ_ok bookC_ok) (by kernel_rfl) cntsT_run List.mem_cons_self (fun _ o ho => by cases ho)
end Go.Proofs.YtkphkjffcpkhjaaDoor
end
