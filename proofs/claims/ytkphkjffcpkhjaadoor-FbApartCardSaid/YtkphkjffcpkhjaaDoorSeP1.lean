import Derived.Test.YtkphkjffcpkhjaaDoorSe27
import Derived.Test.YtkphkjffcpkhjaaDoorSeK0
/-! Plain lemmas for what is to be shown. -/
noncomputable section
set_option linter.unusedSimpArgs false
set_option linter.unusedVariables false
namespace Go.SE
theorem den_b2i (ρ : Env) (a : U) : O1.den ρ .b2i a = .i (if a.asB then 1 else 0) := rfl
theorem den_not (ρ : Env) (a : U) : O1.den ρ .not a = .b (!a.asB) := rfl
theorem den_wrap (ρ : Env) (k : IntKind) (a : U) : O1.den ρ (.wrap k) a = .i (k.wrap a.asI) := rfl
theorem den_fld (ρ : Env) (j : Nat) (a : U) : O1.den ρ (.fld j) a = a.asL.getD j default := rfl
theorem den_f1 (ρ : Env) (k : Nat) (a : U) : O1.den ρ (.f k) a = ρ.f k [a] := rfl
theorem den_len (ρ : Env) (a : U) : O1.den ρ .len a = .i a.asL.length := rfl
theorem ile_d (a b : Int) : ile a b = decide (a ≤ b) := rfl
theorem ieq_d (a b : Int) : ieq a b = decide (a = b) := rfl
theorem ilt_d (a b : Int) : ilt a b = decide (a < b) := rfl
theorem ieq_f (a b : Int) : ieq a b = false ↔ ¬ a = b := by simp [ieq]
theorem ilt_f (a b : Int) : ilt a b = false ↔ ¬ a < b := by simp [ilt]
theorem ile_f (a b : Int) : ile a b = false ↔ ¬ a ≤ b := by simp [ile]
theorem min_bif (a b : Int) : (bif ilt b a then b else a) = min a b := by
  simp only [ilt]; by_cases h : b < a <;> simp [h] <;> omega
theorem max_bif (a b : Int) : (bif ilt a b then b else a) = max a b := by
  simp only [ilt]; by_cases h : a < b <;> simp [h] <;> omega
theorem w32_def (n : Int) : IntKind.i32.wrap n = w32 n := rfl
theorem w16_def (n : Int) : IntKind.i16.wrap n = w16 n := rfl
theorem w64_def (n : Int) : IntKind.i64.wrap n = w64 n := rfl
theorem w32_eq (n : Int) : w32 n = if n % 4294967296 < 2147483648 then n % 4294967296 else n % 4294967296 - 4294967296 := by
  simp only [w32, IntKind.wrap, IntKind.bits, IntKind.signed]; simp; split <;> split <;> omega
theorem w16_eq (n : Int) : w16 n = if n % 65536 < 32768 then n % 65536 else n % 65536 - 65536 := by
  simp only [w16, IntKind.wrap, IntKind.bits, IntKind.signed]; simp; split <;> split <;> omega
theorem w64_eq (n : Int) : w64 n = if n % 18446744073709551616 < 9223372036854775808 then n % 18446744073709551616 else n % 18446744073709551616 - 18446744073709551616 := by
  simp only [w64, IntKind.wrap, IntKind.bits, IntKind.signed]; simp; split <;> split <;> omega
theorem w32_rng (n : Int) : -2147483648 ≤ w32 n ∧ w32 n ≤ 2147483647 := by rw [w32_eq]; split <;> omega
theorem w16_rng (n : Int) : -32768 ≤ w16 n ∧ w16 n ≤ 32767 := by rw [w16_eq]; split <;> omega
theorem w32_id {n : Int} (h1 : -2147483648 ≤ n) (h2 : n ≤ 2147483647) : w32 n = n := by rw [w32_eq]; split <;> omega
theorem w16_id {n : Int} (h1 : -32768 ≤ n) (h2 : n ≤ 32767) : w16 n = n := by rw [w16_eq]; split <;> omega
theorem w64_id {n : Int} (h1 : -9223372036854775808 ≤ n) (h2 : n ≤ 9223372036854775807) : w64 n = n := by rw [w64_eq]; split <;> omega
theorem w32_w64 (n : Int) : w32 (w64 n) = w32 n := by rw [w32_eq, w32_eq, w64_eq]; split <;> split <;> split <;> omega
theorem w32_w32 (n : Int) : w32 (w32 n) = w32 n := w32_id (w32_rng n).1 (w32_rng n).2
theorem w16_w16 (n : Int) : w16 (w16 n) = w16 n := w16_id (w16_rng n).1 (w16_rng n).2
theorem shr_shl_32 (x : Int) : shrZ .i64 (shlZ .i64 x 32) 32 = w32 x := by
  simp only [shrZ, shlZ, w64_def]
  rw [Int.fdiv_eq_ediv_of_nonneg _ (by decide)]
  have h : (2 : Int) ^ (min (32 : Int).toNat IntKind.i64.bits) = 4294967296 := by decide
  rw [h, w64_eq, w32_eq]
  split <;> split <;> omega
theorem shr_shl_48 (x : Int) : shrZ .i64 (shlZ .i64 x 48) 48 = w16 x := by
  simp only [shrZ, shlZ, w64_def]
  rw [Int.fdiv_eq_ediv_of_nonneg _ (by decide)]
  have h : (2 : Int) ^ (min (48 : Int).toNat IntKind.i64.bits) = 281474976710656 := by decide
  rw [h, w64_eq, w16_eq]
  split <;> split <;> omega
theorem den_shl (ρ : Env) (k : IntKind) (a b : U) : O2.den ρ (.shl k) a b = .i (shlZ k a.asI b.asI) := rfl
theorem den_shr (ρ : Env) (k : IntKind) (a b : U) : O2.den ρ (.shr k) a b = .i (shrZ k a.asI b.asI) := rfl
theorem getD_asI (l : List U) (i : Nat) : (l.map U.asI).getD i 0 = (l.getD i default).asI := by
  simp only [List.getD_eq_getElem?_getD, List.getElem?_map]
  cases l[i]? <;> rfl
theorem getD_past (l : List U) {i : Nat} (h : ¬ i < l.length) : l.getD i default = default := by
  rw [List.getD_eq_getElem?_getD, List.getElem?_eq_none (by omega)]; rfl
end Go.SE
end
