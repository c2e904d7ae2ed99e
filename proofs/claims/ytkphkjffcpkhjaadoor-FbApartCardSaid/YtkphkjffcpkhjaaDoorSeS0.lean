import Derived.Test.YtkphkjffcpkhjaaDoorSeB2
import Derived.Test.YtkphkjffcpkhjaaDoorSeK1
/-! fb.Step: the context of the blocks' runs; lemmas for what is to be shown. -/
noncomputable section
set_option linter.unusedSimpArgs false
set_option linter.unusedVariables false
namespace Go.SE
theorem keyS_lit {l : List Nat} (h : small l = true) : keyS (bytesOf l) = l.map (fun n : Nat => (n : Int)) := by
  simp only [keyS, bytesOf, List.map_map]
  refine List.map_congr_left fun a ha => ?_
  have := small_lt h a ha
  simp; omega
theorem k_IN : keyS (bytesOf [73, 78]) = [73, 78] := keyS_lit rfl
theorem k_PT : keyS (bytesOf [80, 84]) = [80, 84] := keyS_lit rfl
theorem k_Q : keyS (bytesOf [81]) = [81] := keyS_lit rfl
theorem k_ET : keyS (bytesOf [69, 84]) = [69, 84] := keyS_lit rfl
theorem k_CU : keyS (bytesOf [67, 85]) = [67, 85] := keyS_lit rfl
theorem k_R : keyS (bytesOf [82]) = [82] := keyS_lit rfl
theorem k_PV : keyS (bytesOf [80, 86]) = [80, 86] := keyS_lit rfl
theorem k_CV : keyS (bytesOf [67, 86]) = [67, 86] := keyS_lit rfl
theorem k_CD : keyS (bytesOf [67, 68]) = [67, 68] := keyS_lit rfl
theorem k_LD : keyS (bytesOf [76, 68]) = [76, 68] := keyS_lit rfl
theorem k_QU : keyS (bytesOf [81, 85]) = [81, 85] := keyS_lit rfl
theorem k_QD : keyS (bytesOf [81, 68]) = [81, 68] := keyS_lit rfl
theorem k_CLK : keyS (bytesOf [67, 76, 75]) = [67, 76, 75] := keyS_lit rfl
theorem k_S1 : keyS (bytesOf [83, 49]) = [83, 49] := keyS_lit rfl
theorem k_Q1 : keyS (bytesOf [81, 49]) = [81, 49] := keyS_lit rfl
theorem k_S : keyS (bytesOf [83]) = [83] := keyS_lit rfl
theorem k_R1 : keyS (bytesOf [82, 49]) = [82, 49] := keyS_lit rfl
theorem getD_pastI {l : List U} {i : Int} (h : ¬ i < (l.length : Int)) : l.getD i.toNat default = default := getD_past l (by omega)
theorem w32_zero : w32 0 = 0 := by decide
theorem w16_zero : w16 0 = 0 := by decide
theorem w32_max0 (y : Int) : w32 (max (w32 y) 0) = max (w32 y) 0 := w32_id (by have := w32_rng y; omega) (by have := w32_rng y; omega)
theorem w32_et (x y : Int) : w32 (min (max (w32 x) 0) (max (w32 y) 0)) = min (max (w32 x) 0) (max (w32 y) 0) := w32_id (by have := w32_rng y; omega) (by have := w32_rng y; omega)
theorem max00 : max (0 : Int) 0 = 0 := rfl
theorem w32_et0 (x : Int) : w32 (min (max (w32 x) 0) 0) = min (max (w32 x) 0) 0 := w32_id (by omega) (by omega)
theorem min0m (y : Int) : min 0 (max y 0) = 0 := by omega
theorem w64_up (x : Int) : w64 (w16 x + 1) = w16 x + 1 := w64_id (by have := w16_rng x; omega) (by have := w16_rng x; omega)
theorem w64_dn (x : Int) : w64 (w16 x - 1) = w16 x - 1 := w64_id (by have := w16_rng x; omega) (by have := w16_rng x; omega)
theorem w16_inc (x : Int) : w16 (min (w16 x + 1) 32767) = min (w16 x + 1) 32767 := w16_id (by have := w16_rng x; omega) (by omega)
theorem w16_dec (x : Int) : w16 (max (w16 x - 1) (-32768)) = max (w16 x - 1) (-32768) := w16_id (by omega) (by have := w16_rng x; omega)
theorem tn0 : Int.toNat 0 = 0 := rfl
theorem tn1 : Int.toNat 1 = 1 := rfl
theorem tn2 : Int.toNat 2 = 2 := rfl
theorem tn3 : Int.toNat 3 = 3 := rfl
theorem tn4 : Int.toNat 4 = 4 := rfl
theorem fld_step (ρ : Env) (j : Nat) (z : List Int → List Int → Int → Int → Int → Int → List Int) (l : List U) :
    O1.den ρ (.fld j) (stepZ z l) = .i ((z ((l.getD 0 default).asL.map U.asI) ((l.getD 1 default).asL.map U.asI) (l.getD 2 default).asI (l.getD 3 default).asI (l.getD 4 default).asI (l.getD 5 default).asI).getD j 0) := by
  simp only [den_fld, stepZ, asL_l, List.getD_eq_getElem?_getD, List.getElem?_map]
  generalize (z _ _ _ _ _ _)[j]? = o
  cases o <;> rfl
theorem den_get (ρ : Env) (a b : U) : O2.den ρ .get a b = a.asL.getD b.asI.toNat default := rfl
theorem den_cons (ρ : Env) (a b : U) : O2.den ρ .cons a b = .l (a :: b.asL) := rfl
theorem den_mset (ρ : Env) (a b c : U) : O3.den ρ .mset a b c = .m fun q => if q = keyS b.asS then c.asI else a.asM q := rfl
theorem den_eqb (ρ : Env) (a b : U) : O2.den ρ .eqb a b = .b (a.asB == b.asB) := rfl
theorem den_asm (ρ : Env) (a : U) : O1.den ρ .asm a = .m a.asM := rfl
theorem den_add (ρ : Env) (a b : U) : O2.den ρ .add a b = .i (a.asI + b.asI) := rfl
theorem den_sub (ρ : Env) (a b : U) : O2.den ρ .sub a b = .i (a.asI - b.asI) := rfl
theorem den_lt (ρ : Env) (a b : U) : O2.den ρ .lt a b = .b (ilt a.asI b.asI) := rfl
theorem den_le (ρ : Env) (a b : U) : O2.den ρ .le a b = .b (ile a.asI b.asI) := rfl
theorem den_eq (ρ : Env) (a b : U) : O2.den ρ .eq a b = .b (ieq a.asI b.asI) := rfl
theorem den_min (ρ : Env) (a b : U) : O2.den ρ .min a b = .i (min a.asI b.asI) := by rw [← min_bif]; rfl
theorem den_max (ρ : Env) (a b : U) : O2.den ρ .max a b = .i (max a.asI b.asI) := by rw [← max_bif]; rfl
/-- (so that fbF's equations are made here, once.) -/
theorem fbF_20 (a b : U) : fbF 20 [a, b] = .i (a.asI % b.asI) := by simp only [fbF]
theorem fbF_1 (u : List U) : fbF 1 u = stepZ tonZ (arg1 u) := by simp only [fbF]
theorem tr_if (b : Bool) : (if b = true then (1 : Int) else 0) = tr b := rfl
theorem asI_default : (default : U).asI = 0 := rfl
theorem asL_nil_default : (U.l []).asL = [] := rfl
end Go.SE
namespace Go.Proofs.YtkphkjffcpkhjaaDoor
open Go Go.SE
def cS : Ctx := ctxJ book0 (fun _ _ _ => none) (layJ kpOf)
theorem cS_ok (I : Interp) : CtxOk Tryd.prog I cS := ctxJ_ok (book0_ok I)
end Go.Proofs.YtkphkjffcpkhjaaDoor
end
