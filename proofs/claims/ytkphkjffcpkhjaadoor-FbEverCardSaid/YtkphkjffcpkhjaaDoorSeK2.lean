import Derived.Test.YtkphkjffcpkhjaaDoorSeK1
/-! The laws' contracts, and what is said of their loops (data). -/
noncomputable section
set_option linter.unusedSimpArgs false
set_option linter.unusedVariables false
namespace Go.SE
def knownK : Ctr := ⟨[], e0 0, [(.bool (.t true), e0 0)]⟩
/-- fb.Step's contracts that known uses, and one block more. -/
def bookN : Book := [(16, [stepK sTON 1 2 false true, stepK sTON 1 2 false false, stepK sCTU 4 2 false true, stepK sCTU 4 2 false false])]
/-- rungref1.Wrap. -/
def rwrapK (k : Nat) : Ctr := ⟨[.int .i64 (.n k), .int .i64 (.v 0)], e0 1, [(.int .i64 (wrapX k (.v 0)), e0 1)]⟩
def wrap1Ks : List Ctr := [rwrapK 3, rwrapK 4, rwrapK 11]
/-- FbEver. -/
def everRow : Blk := .rows false [.int .u32] (.v 0) 0 (.n 0)
def everK (nil : Bool) : Ctr :=
  let h : H := { hp := bif nil then [] else [(0, everRow)], nb := bif nil then 0 else 1, xb := 0, nv := 3, xv := 0, fs := [.p 4 [.v 0], laidF] }
  ⟨[bif nil then .nils else .slice 0 0 (.n 0) 1 (.u .len (.v 0)) (.v 1), .int .i64 (.v 2)], h, [(.bool (.t true), h)]⟩
def outOf (o k : List SV) (b c : Nat) (h : H) : SV × H :=
  (.tuple [.slice b 0 (.n 0) 1 (.n o.length) (.v c), .agg k],
    { h with hp := [(b, .cells o 2 (.o .mul (.v c) (.n 1)))], nb := b + 1, nv := c + 1, fs := [laidF, .x (.o .le (.n o.length) (.v c)), .x (.o .le (.v c) (.n 9223372036854775807))] })
def i64 (x : X) : SV := .int .i64 x
def inRow : Blk := .rows false ci (xs [.n 1, .v 0]) 0 (.n 0)
def ever0 : Ctr :=
  let h : H := ⟨[(0, inRow)], 1, 0, 2, 0, [.p 2 [.v 0], laidF]⟩
  ⟨[.str (.s sTON), .slice 0 0 (.n 0) 1 (.n 2) (.v 1), .agg [i64 (.n 0), i64 (.n 0), i64 (.n 0)], .nils, i64 (.n 0)], h, [outOf [i64 (.u .b2i (.o .eq (.v 0) (.n 0))), i64 (.n 0)] [i64 (.n 1), i64 (.n 0), i64 (.u .b2i (.o .eq (.v 0) (.n 0)))] 1 2 h]⟩
def ever1 : Ctr :=
  let h : H := ⟨[(1, .rows false ci (xs [.v 5, .v 6]) 0 (.n 0)), (0, inRow)], 2, 0, 7, 0, [.p 3 [.v 0, .v 2, .v 4], laidF]⟩
  let q : X := .o .or (.v 2) (.o .le (.v 0) (.v 4))
  ⟨[.str (.s sTON), .slice 0 0 (.n 0) 1 (.n 2) (.v 1), .agg [i64 (.n 1), i64 (.n 0), i64 (.u .b2i (.v 2))], .slice 1 0 (.n 0) 1 (.n 2) (.v 3), i64 (.v 4)], h, [outOf [i64 (.u .b2i q), i64 (.o .add (.c .ite q (.v 0) (.v 4)) (.n 0))] [i64 (.n 1), i64 (.n 0), i64 (.u .b2i q)] 2 7 h]⟩
def bookE : Book := [(12, [knownK]), (15, wrap1Ks), (16, [ever0, ever1])]
def xint (k : IntKind) (i : Nat) : SV := .int k (.v i)
/-- the loop of FbEver. -/
def everT (st : St) : Option Tm :=
  match fget st.fr 0, fget st.fr 1, fget st.fr 6 with
  | some (.slice sb sj sr sw len sc), some (.int .i64 pt), some (.ptr kb _ _ _) =>
    let v := st.h.nv
    let b := st.h.nb
    let sl : SV := .slice sb sj sr sw len sc
    let rows := match fget st.h.hp 0 with
      | some (.rows false ks x e t) => [(0, Blk.rows false ks x e t)]
      | _ => []
    let fr := [(10, xint .i64 (v + 2)), (9, .bool (.v (v + 1))), (8, xint .i64 v), (7, xint .i64 v), (6, .ptr kb (.n 0) 0 0), (5, .slice b 0 (.n 0) 1 (.n 2) (.v (v + 5))), (1, .int .i64 pt), (0, sl)]
    let hp := [(b, Blk.cells [xint .i64 (v + 3), xint .i64 (v + 4)] 2 (.o .mul (.v (v + 5)) (.n 1))), (kb, .cells [i64 (.n 1), i64 (.n 0), i64 (.u .b2i (.v (v + 1)))] 34 (.n 3))] ++ rows
    let fs := (Fact.p 1 [pt, .v v, .v (v + 1), .v (v + 2), len]) :: ((.x (.o .le (.n 2) (.v (v + 5)))) :: ((.x (.o .le (.v (v + 5)) (.n 9223372036854775807))) :: (.p 2 [pt]) :: st.h.fs))
    some ⟨⟨fr, st.n, ⟨hp, b + 1, 0, v + 6, 0, fs⟩⟩, .o .sub len (.v (v + 2)), [], []⟩
  | _, _, _ => none
def lpEver (f k : Nat) (st : St) : Option Tm := bif Nat.beq f 7 && Nat.beq k 9 then everT st else none
end Go.SE
end
