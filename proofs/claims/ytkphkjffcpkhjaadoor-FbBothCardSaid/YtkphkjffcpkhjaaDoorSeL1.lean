import Derived.Test.YtkphkjffcpkhjaaDoorSeS0
import Derived.Test.YtkphkjffcpkhjaaDoorSeK2
/-! rungref1.Wrap. -/
noncomputable section
set_option linter.unusedSimpArgs false
set_option linter.unusedVariables false
namespace Go.SE
theorem and_mask16 (x : Int) : bitsZ .and .i64 x 65535 = x % 65536 := by
  have h1 : (BitVec.ofInt IntKind.i64.bits x &&& BitVec.ofInt IntKind.i64.bits 65535).toNat = (x % 18446744073709551616).toNat % 65536 := by
    rw [BitVec.toNat_and]
    have e1 : (BitVec.ofInt IntKind.i64.bits x).toNat = (x % 18446744073709551616).toNat := by rw [BitVec.toNat_ofInt]; rfl
    have e2 : (BitVec.ofInt IntKind.i64.bits 65535).toNat = 2 ^ 16 - 1 := by decide
    rw [e1, e2, Nat.and_two_pow_sub_one_eq_mod]
  show IntKind.i64.wrap ((BitVec.ofInt IntKind.i64.bits x &&& BitVec.ofInt IntKind.i64.bits 65535).toNat : Int) = _
  rw [h1, w64_def, w64_eq]
  split <;> omega
theorem and_mask32 (x : Int) : bitsZ .and .i64 x 4294967295 = x % 4294967296 := by
  have h1 : (BitVec.ofInt IntKind.i64.bits x &&& BitVec.ofInt IntKind.i64.bits 4294967295).toNat = (x % 18446744073709551616).toNat % 4294967296 := by
    rw [BitVec.toNat_and]
    have e1 : (BitVec.ofInt IntKind.i64.bits x).toNat = (x % 18446744073709551616).toNat := by rw [BitVec.toNat_ofInt]; rfl
    have e2 : (BitVec.ofInt IntKind.i64.bits 4294967295).toNat = 2 ^ 32 - 1 := by decide
    rw [e1, e2, Nat.and_two_pow_sub_one_eq_mod]
  show IntKind.i64.wrap ((BitVec.ofInt IntKind.i64.bits x &&& BitVec.ofInt IntKind.i64.bits 4294967295).toNat : Int) = _
  rw [h1, w64_def, w64_eq]
  split <;> omega
theorem den_bit (ρ : Env) (op : BinOp) (k : IntKind) (a b : U) : O2.den ρ (.bit op k) a b = .i (bitsZ op k a.asI b.asI) := rfl
end Go.SE
namespace Go.Proofs.YtkphkjffcpkhjaaDoor
open Go Go.SE
set_option maxRecDepth 1000000
def rwrap3_ob : List Obl := [⟨[(.x (.o .lt (.n 32767) (.o (.bit .and .i64) (.v 0) (.n 65535))))], (.q (.u (.wrap .i16) (.v 0)) (.u (.wrap .i64) (.o .sub (.o (.bit .and .i64) (.v 0) (.n 65535)) (.n 65536))))⟩,
  ⟨[(.x (.u .not (.o .lt (.n 32767) (.o (.bit .and .i64) (.v 0) (.n 65535)))))], (.q (.u (.wrap .i16) (.v 0)) (.o (.bit .and .i64) (.v 0) (.n 65535)))⟩]
theorem rwrap3_run : runOne cA 100 15 (rwrapK 3) (((rwrapK 3)).outs.headD (.nilp, ((rwrapK 3)).h)) = some rwrap3_ob := by kernel_rfl
def rwrap4_ob : List Obl := [⟨[(.x (.o .lt (.n 2147483647) (.o (.bit .and .i64) (.v 0) (.n 4294967295))))], (.q (.u (.wrap .i32) (.v 0)) (.u (.wrap .i64) (.o .sub (.o (.bit .and .i64) (.v 0) (.n 4294967295)) (.n 4294967296))))⟩,
  ⟨[(.x (.u .not (.o .lt (.n 2147483647) (.o (.bit .and .i64) (.v 0) (.n 4294967295)))))], (.q (.u (.wrap .i32) (.v 0)) (.o (.bit .and .i64) (.v 0) (.n 4294967295)))⟩]
theorem rwrap4_run : runOne cA 100 15 (rwrapK 4) (((rwrapK 4)).outs.headD (.nilp, ((rwrapK 4)).h)) = some rwrap4_ob := by kernel_rfl
def rwrap11_ob : List Obl := [⟨[(.x (.o .lt (.n 2147483647) (.o (.bit .and .i64) (.v 0) (.n 4294967295))))], (.q (.u (.wrap .i32) (.v 0)) (.u (.wrap .i64) (.o .sub (.o (.bit .and .i64) (.v 0) (.n 4294967295)) (.n 4294967296))))⟩,
  ⟨[(.x (.u .not (.o .lt (.n 2147483647) (.o (.bit .and .i64) (.v 0) (.n 4294967295)))))], (.q (.u (.wrap .i32) (.v 0)) (.o (.bit .and .i64) (.v 0) (.n 4294967295)))⟩]
theorem rwrap11_run : runOne cA 100 15 (rwrapK 11) (((rwrapK 11)).outs.headD (.nilp, ((rwrapK 11)).h)) = some rwrap11_ob := by kernel_rfl
theorem rwrap_ok (I : Interp) : ∀ c ∈ wrap1Ks, CtrOk Tryd.prog I 15 c := by
  have h0 : CtxOk Tryd.prog I cA := ctx_ok (by intro q hq; cases hq)
  have s16 : ∀ w, ∀ o ∈ rwrap3_ob, o.ok ⟨w, I⟩ := by
    intro w
    unfold rwrap3_ob
    simp only [List.forall_mem_cons, List.not_mem_nil, false_implies, implies_true, and_true]
    refine ⟨fun ρ _ _ hfs => ?_, fun ρ _ _ hfs => ?_⟩
    all_goals
      simp only [List.forall_mem_cons, List.not_mem_nil, false_implies, implies_true, and_true, Fact.ok, X.den, den_not, den_lt, den_bit, asB_b, asI_i, Bool.not_eq_true', ilt_iff, ilt_f, and_mask16] at hfs
      simp only [Fact.ok, X.den, den_wrap, den_sub, den_bit, asI_i, and_mask16, w16_def, w64_def]
      refine congrArg U.i ?_
      rw [w16_eq]
      first | (rw [w64_id (by omega) (by omega)]; split <;> omega) | (split <;> omega)
  have s32 : ∀ w, ∀ o ∈ rwrap4_ob, o.ok ⟨w, I⟩ := by
    intro w
    unfold rwrap4_ob
    simp only [List.forall_mem_cons, List.not_mem_nil, false_implies, implies_true, and_true]
    refine ⟨fun ρ _ _ hfs => ?_, fun ρ _ _ hfs => ?_⟩
    all_goals
      simp only [List.forall_mem_cons, List.not_mem_nil, false_implies, implies_true, and_true, Fact.ok, X.den, den_not, den_lt, den_bit, asB_b, asI_i, Bool.not_eq_true', ilt_iff, ilt_f, and_mask32] at hfs
      simp only [Fact.ok, X.den, den_wrap, den_sub, den_bit, asI_i, and_mask32, w32_def, w64_def]
      refine congrArg U.i ?_
      rw [w32_eq]
      first | (rw [w64_id (by omega) (by omega)]; split <;> omega) | (split <;> omega)
  simp only [wrap1Ks, List.forall_mem_cons, List.not_mem_nil, false_implies, implies_true, and_true]
  exact ⟨.one h0 (by kernel_rfl) rwrap3_run List.mem_cons_self s16, .one h0 (by kernel_rfl) rwrap4_run List.mem_cons_self s32, .one h0 (by kernel_rfl) rwrap11_run List.mem_cons_self s32⟩
end Go.Proofs.YtkphkjffcpkhjaaDoor
end
