import Derived.Test.YtkphkjffcpkhjaaDoorSeK1
/-! The laws' contracts, and what is said of their loops (data). -/
noncomputable section
set_option linter.unusedSimpArgs false
set_option linter.unusedVariables false
namespace Go.SE
def knownK : Ctr := ⟨[], e0 0, [(.bool (.t true), e0 0)]⟩
/-- fb.Step's contracts that known uses, and one block more. -/
def bookN : Book := [(16, [stepK sTON 1 2 false true, stepK sTON 1 2 false false, stepK sCTU 4 2 false true, stepK sCTU 4 2 false false])]
/-- rungref1.Wrap. -/
def rwrapK (k : Nat) : Ctr := ⟨[.int .i64 (.n k), .int .i64 (.v 0)], e0 1, [(.int .i64 (wrapX k (.v 0)), e0 1)]⟩
def wrap1Ks : List Ctr := [rwrapK 3, rwrapK 4, rwrapK 11]
/-- FbEver. -/
def everRow : Blk := .rows false [.int .u32] (.v 0) 0 (.n 0)
def everK (nil : Bool) : Ctr :=
  let h : H := { hp := bif nil then [] else [(0, everRow)], nb := bif nil then 0 else 1, xb := 0, nv := 3, xv := 0, fs := [.p 4 [.v 0], laidF] }
  ⟨[bif nil then .nils else .slice 0 0 (.n 0) 1 (.u .len (.v 0)) (.v 1), .int .i64 (.v 2)], h, [(.bool (.t true), h)]⟩
def outOf (o k : List SV) (b c : Nat) (h : H) : SV × H :=
  (.tuple [.slice b 0 (.n 0) 1 (.n o.length) (.v c), .agg k],
    { h with hp := [(b, .cells o 2 (.o .mul (.v c) (.n 1)))], nb := b + 1, nv := c + 1, fs := [laidF, .x (.o .le (.n o.length) (.v c)), .x (.o .le (.v c) (.n 9223372036854775807))] })
def i64 (x : X) : SV := .int .i64 x
def inRow : Blk := .rows false ci (xs [.n 1, .v 0]) 0 (.n 0)
def ever0 : Ctr :=
  let h : H := ⟨[(0, inRow)], 1, 0, 2, 0, [.p 2 [.v 0], laidF]⟩
  ⟨[.str (.s sTON), .slice 0 0 (.n 0) 1 (.n 2) (.v 1), .agg [i64 (.n 0), i64 (.n 0), i64 (.n 0)], .nils, i64 (.n 0)], h, [outOf [i64 (.u .b2i (.o .eq (.v 0) (.n 0))), i64 (.n 0)] [i64 (.n 1), i64 (.n 0), i64 (.u .b2i (.o .eq (.v 0) (.n 0)))] 1 2 h]⟩
def ever1 : Ctr :=
  let h : H := ⟨[(1, .rows false ci (xs [.v 5, .v 6]) 0 (.n 0)), (0, inRow)], 2, 0, 7, 0, [.p 3 [.v 0, .v 2, .v 4], laidF]⟩
  let q : X := .o .or (.v 2) (.o .le (.v 0) (.v 4))
  ⟨[.str (.s sTON), .slice 0 0 (.n 0) 1 (.n 2) (.v 1), .agg [i64 (.n 1), i64 (.n 0), i64 (.u .b2i (.v 2))], .slice 1 0 (.n 0) 1 (.n 2) (.v 3), i64 (.v 4)], h, [outOf [i64 (.u .b2i q), i64 (.o .add (.c .ite q (.v 0) (.v 4)) (.n 0))] [i64 (.n 1), i64 (.n 0), i64 (.u .b2i q)] 2 7 h]⟩
def bookE : Book := [(12, [knownK]), (15, wrap1Ks), (16, [ever0, ever1])]
def xint (k : IntKind) (i : Nat) : SV := .int k (.v i)
/-- the loop of FbEver. -/
def everT (st : St) : Option Tm :=
  match fget st.fr 0, fget st.fr 1, fget st.fr 6 with
  | some (.slice sb sj sr sw len sc), some (.int .i64 pt), some (.ptr kb _ _ _) =>
    let v := st.h.nv
    let b := st.h.nb
    let sl : SV := .slice sb sj sr sw len sc
    let rows := match fget st.h.hp 0 with
      | some (.rows false ks x e t) => [(0, Blk.rows false ks x e t)]
      | _ => []
    let fr := [(10, xint .i64 (v + 2)), (9, .bool (.v (v + 1))), (8, xint .i64 v), (7, xint .i64 v), (6, .ptr kb (.n 0) 0 0), (5, .slice b 0 (.n 0) 1 (.n 2) (.v (v + 5))), (1, .int .i64 pt), (0, sl)]
    let hp := [(b, Blk.cells [xint .i64 (v + 3), xint .i64 (v + 4)] 2 (.o .mul (.v (v + 5)) (.n 1))), (kb, .cells [i64 (.n 1), i64 (.n 0), i64 (.u .b2i (.v (v + 1)))] 34 (.n 3))] ++ rows
    let fs := (Fact.p 1 [pt, .v v, .v (v + 1), .v (v + 2), len]) :: ((.x (.o .le (.n 2) (.v (v + 5)))) :: ((.x (.o .le (.v (v + 5)) (.n 9223372036854775807))) :: (.p 2 [pt]) :: st.h.fs))
    some ⟨⟨fr, st.n, ⟨hp, b + 1, 0, v + 6, 0, fs⟩⟩, .o .sub len (.v (v + 2)), [], []⟩
  | _, _, _ => none
def lpEver (f k : Nat) (st : St) : Option Tm := bif Nat.beq f 7 && Nat.beq k 9 then everT st else none
/-! Counters. -/
def placeK (n : Nat) : Ctr := ⟨[.int .i64 (.v 0), .int .i64 (.n n)], e0 1, [(.int .i64 (.o (.f 20) (.v 0) (.n n)), e0 1)]⟩
def placeC (n : Nat) : Ctr := ⟨[.int .i64 (.v 0), .int .i64 (.n n)], e0 1, (List.range n).map fun (j : Nat) => (SV.int .i64 (.n (j : Int)), e0 1)⟩
def incX (c : X) : X := .o .min (.u (.wrap .i64) (.o .add c (.n 1))) (.n 32767)
def decX (c : X) : X := .o .max (.u (.wrap .i64) (.o .sub c (.n 1))) (.n (-32768))
def cntX (up : Bool) (x y pv was cv : X) : X :=
  .o .add (.c .ite y (bif up then .n 0 else pv) (.c .ite (.o .and x (.u .not was)) (bif up then incX cv else decX cv) cv)) (.n 0)
def b2 (x : X) : SV := i64 (.u .b2i x)
def rowsOf (l : List X) : Blk := .rows false ci (xs l) 0 (.n 0)
def cntK (up : Bool) : Ctr :=
  let h : H := ⟨[(1, rowsOf [.v 5, .v 6]), (0, rowsOf [.u .b2i (.v 0), .u .b2i (.v 1), .v 2])], 2, 0, 9, 0, [.p 5 [.v 2], .p 5 [.v 6], laidF]⟩
  let c := cntX up (.v 0) (.v 1) (.v 2) (.v 4) (.v 6)
  ⟨[.str (.s (bif up then sCTU else sCTD)), .slice 0 0 (.n 0) 1 (.n 3) (.v 3), .agg [b2 (.v 4), i64 (.n 0), i64 (.n 0)], .slice 1 0 (.n 0) 1 (.n 2) (.v 7), i64 (.v 8)], h,
    [outOf [b2 (bif up then .o .le (.v 2) c else .o .le c (.n 0)), i64 c] [b2 (.v 0), i64 (.n 0), i64 (.n 0)] 2 9 h]⟩
def rowsAt (h : H) (b : Nat) : List (Nat × Blk) :=
  match fget h.hp b with
  | some (.rows false ks x e t) => [(b, .rows false ks x e t)]
  | _ => []
def capFs (n : Nat) (v : Nat) (l : List Fact) : List Fact := (.x (.o .le (.n n) (.v v))) :: ((.x (.o .le (.v v) (.n 9223372036854775807))) :: l)
def cntT (st : St) : Option Tm :=
  match fget st.fr 1, fget st.fr 2, fget st.fr 9, fget st.fr 12 with
  | some (.slice sb sj sr sw len sc), some (.int .i64 pv), some blk, some (.ptr kb _ _ _) =>
    let v := st.h.nv
    let b := st.h.nb
    let fr := [(14, xint .i64 (v + 2)), (13, .bool (.v (v + 1))), (12, .ptr kb (.n 0) 0 0), (11, .slice b 0 (.n 0) 1 (.n 2) (.v (v + 4))), (10, xint .i64 v), (9, blk), (2, i64 pv), (1, .slice sb sj sr sw len sc)]
    let hp := [(b, Blk.cells [xint .i64 (v + 3), xint .i64 v] 2 (.o .mul (.v (v + 4)) (.n 1))), (kb, .cells [b2 (.v (v + 1)), i64 (.n 0), i64 (.n 0)] 34 (.n 3))] ++ rowsAt st.h sb
    let fs := Fact.p 5 [.v v] :: (Fact.p 5 [pv] :: (Fact.p 6 [.v (v + 2)] :: capFs 2 (v + 4) st.h.fs))
    some ⟨⟨fr, st.n, ⟨hp, b + 1, 0, v + 5, 0, fs⟩⟩, .o .sub len (.v (v + 2)), [], []⟩
  | _, _, _, _ => none
def lpCnt (f k : Nat) (st : St) : Option Tm := bif Nat.beq f 4 && Nat.beq k 12 then cntT st else none
def setL (l : List SV) (k : Nat) (s : SV) : List SV := l.take k ++ s :: l.drop (k + 1)
/-- behind 'if b { in[k] = 1 }'. -/
def inJ (mk : Nat) (sl kk cc : Nat) (st : St) : Option St :=
  match fget st.fr sl, fget st.fr kk, fget st.fr cc with
  | some (.slice b _ _ _ _ _), some (.int _ (.n k)), some (.bool x) => match fget st.h.hp b with
    | some (.cells l e t) => some { st with fr := keepM mk st.fr, h := { st.h with hp := fset b (.cells (setL l k.toNat (b2 x)) e t) st.h.hp } }
    | _ => none
  | _, _, _ => none
def inBits (h : H) : SV → List X
  | .slice b _ _ _ _ _ => match fget h.hp b with
    | some (.cells l _ _) => l.filterMap fun s => match s with
      | .int _ (.u .b2i x) => some x
      | _ => none
    | _ => []
  | _ => []
def cntJ (mk : Nat) (st : St) : Option St :=
  match fget st.fr 15, fget st.fr 2, fget st.fr 13, fget st.fr 10, fget st.fr 9 with
  | some sl, some (.int _ pv), some (.bool was), some (.int _ cv), some (.str (.s nm)) => match inBits st.h sl with
    | [x, y] => some { st with fr := fset 10 (i64 (cntX (beqL nm sCTU) x y pv was cv)) (keepM mk st.fr) }
    | _ => none
  | _, _, _, _, _ => none
def jnCnt (kp : Nat → Nat → Option Nat) (f k : Nat) (st : St) : Option St :=
  bif Nat.beq f 4 && Nat.beq k 19 then (kp 4 19).bind fun mk => inJ mk 15 16 51 st else
  bif Nat.beq f 4 && Nat.beq k 1004 then cntJ 0xDE06 st else none
def bookC : Book := [(12, [knownK]), (14, [placeC 2]), (15, wrap1Ks), (16, [cntK true, cntK false])]
def cntsK (nil : Bool) : Ctr :=
  let h : H := { hp := bif nil then [] else [(0, .rows false [.bool, .bool, .bool] (.v 1) 0 (.n 0))], nb := bif nil then 0 else 1, xb := 0, nv := 5, xv := 0, fs := [laidF] }
  ⟨[i64 (.v 0), bif nil then .nils else .slice 0 0 (.n 0) 3 (.u .len (.v 1)) (.v 2), i64 (.v 3), i64 (.v 4)], h, [(.bool (.t true), h)]⟩
/-! Both ways. -/
def bothX (x0 x1 x2 x3 pv up dn cv : X) : X :=
  let a : X := .o .and x0 (.u .not up)
  let b : X := .o .and x1 (.u .not dn)
  .o .add (.c .ite x2 (.n 0) (.c .ite x3 pv (.c .ite (.o .and a (.u .not b)) (incX cv) (.c .ite (.o .and b (.u .not a)) (decX cv) cv)))) (.n 0)
def bothK : Ctr :=
  let h : H := ⟨[(1, rowsOf [.v 8, .v 9, .v 10]), (0, rowsOf [.u .b2i (.v 0), .u .b2i (.v 1), .u .b2i (.v 2), .u .b2i (.v 3), .v 4])], 2, 0, 13, 0, [.p 5 [.v 4], .p 5 [.v 10], laidF]⟩
  let c := bothX (.v 0) (.v 1) (.v 2) (.v 3) (.v 4) (.v 6) (.v 7) (.v 10)
  ⟨[.str (.s sCTUD), .slice 0 0 (.n 0) 1 (.n 5) (.v 5), .agg [b2 (.v 6), b2 (.v 7), i64 (.n 0)], .slice 1 0 (.n 0) 1 (.n 3) (.v 11), i64 (.v 12)], h,
    [outOf [b2 (.o .le (.v 4) c), b2 (.o .le c (.n 0)), i64 c] [b2 (.v 0), b2 (.v 1), i64 (.n 0)] 2 13 h]⟩
def bothT (st : St) : Option Tm :=
  match fget st.fr 0, fget st.fr 1, fget st.fr 9 with
  | some (.slice sb sj sr sw len sc), some (.int .i64 pv), some (.ptr kb _ _ _) =>
    let v := st.h.nv
    let b := st.h.nb
    let fr := [(12, xint .i64 (v + 3)), (11, .bool (.v (v + 2))), (10, .bool (.v (v + 1))), (9, .ptr kb (.n 0) 0 0), (8, .slice b 0 (.n 0) 1 (.n 3) (.v (v + 6))), (7, xint .i64 v), (1, i64 pv), (0, .slice sb sj sr sw len sc)]
    let hp := [(b, Blk.cells [xint .i64 (v + 4), xint .i64 (v + 5), xint .i64 v] 2 (.o .mul (.v (v + 6)) (.n 1))), (kb, .cells [b2 (.v (v + 1)), b2 (.v (v + 2)), i64 (.n 0)] 34 (.n 3))] ++ rowsAt st.h sb
    let fs := Fact.p 5 [.v v] :: (Fact.p 5 [pv] :: (Fact.p 6 [.v (v + 3)] :: capFs 3 (v + 6) st.h.fs))
    some ⟨⟨fr, st.n, ⟨hp, b + 1, 0, v + 7, 0, fs⟩⟩, .o .sub len (.v (v + 3)), [], []⟩
  | _, _, _ => none
def lpBoth (f k : Nat) (st : St) : Option Tm := bif Nat.beq f 6 && Nat.beq k 11 then bothT st else none
def bothJ (mk : Nat) (st : St) : Option St :=
  match fget st.fr 13, fget st.fr 1, fget st.fr 10, fget st.fr 11, fget st.fr 7 with
  | some sl, some (.int _ pv), some (.bool up), some (.bool dn), some (.int _ cv) => match inBits st.h sl with
    | [x0, x1, x2, x3] => some { st with fr := fset 7 (i64 (bothX x0 x1 x2 x3 pv up dn cv)) (keepM mk st.fr) }
    | _ => none
  | _, _, _, _, _ => none
def jnBoth (kp : Nat → Nat → Option Nat) (f k : Nat) (st : St) : Option St :=
  bif Nat.beq f 6 && Nat.beq k 18 then (kp 6 18).bind fun mk => inJ mk 13 14 46 st else
  bif Nat.beq f 6 && Nat.beq k 1004 then bothJ 0x3F83 st else none
def spBoth (f k : Nat) (st : St) : List X := bif Nat.beq f 6 && Nat.beq k 19 then (match fget st.fr 13 with | some sl => (inBits st.h sl).take 2 | none => []) else []
def bookB : Book := [(12, [knownK]), (15, wrap1Ks), (16, [bothK])]
def bothsK (nil : Bool) : Ctr :=
  let h : H := { hp := bif nil then [] else [(0, .rows false [.bool, .bool, .bool, .bool] (.v 0) 0 (.n 0))], nb := bif nil then 0 else 1, xb := 0, nv := 4, xv := 0, fs := [laidF] }
  ⟨[bif nil then .nils else .slice 0 0 (.n 0) 4 (.u .len (.v 0)) (.v 1), i64 (.v 2), i64 (.v 3)], h, [(.bool (.t true), h)]⟩
end Go.SE
end
