import Derived.Test.YtkphkjffcpkhjaaDoorSeK0
/-! What the blocks compute; what the contracts' functions stand for. -/
noncomputable section
set_option linter.unusedSimpArgs false
set_option linter.unusedVariables false
namespace Go.SE
def tr (b : Bool) : Int := if b then 1 else 0
def nz (n : Int) : Bool := decide (n ≠ 0)
/-- what is shown of a time, and how long it runs. -/
def shown (pt now k1 : Int) : Int := min (max (w32 (w32 now - k1)) 0) pt
/-- TON: q, et, and what is kept. -/
def tonZ (i _o : List Int) (k0 k1 k2 now : Int) : List Int :=
  let on := nz (i.getD 0 0)
  let pt := max (w32 (i.getD 1 0)) 0
  let rise := on && !nz (w32 k0)
  let k1 := if rise then w32 now else w32 k1
  let k2 := if rise then 0 else w32 k2
  if on then
    if k2 = 1 then [1, pt, 1, k1, 1]
    else [tr (decide (pt ≤ shown pt now k1)), shown pt now k1, 1, k1, tr (decide (pt ≤ shown pt now k1))]
  else [0, 0, 0, k1, 0]
def tofZ (i o : List Int) (k0 k1 k2 now : Int) : List Int :=
  let on := nz (i.getD 0 0)
  let pt := max (w32 (i.getD 1 0)) 0
  if on then [1, 0, 1, w32 k1, 0] else
    let k2 := if nz (w32 k0) then 1 else w32 k2
    let k1 := if nz (w32 k0) then w32 now else w32 k1
    if k2 = 0 then [0, w32 (o.getD 1 0), 0, k1, 0]
    else [tr (decide (shown pt now k1 < pt)), shown pt now k1, 0, k1, if shown pt now k1 < pt then k2 else 0]
def tpZ (i o : List Int) (k0 k1 k2 now : Int) : List Int :=
  let on := nz (i.getD 0 0)
  let pt := max (w32 (i.getD 1 0)) 0
  let go := !decide (w32 k2 = 1) && (on && !nz (w32 k0))
  let k2 := if go then 1 else w32 k2
  let k1 := if go then w32 now else w32 k1
  if k2 = 1 then
    if shown pt now k1 < pt then [1, shown pt now k1, tr on, k1, 1]
    else if on then [0, shown pt now k1, 1, k1, 2] else [0, 0, 0, k1, 0]
  else if on then [0, w32 (o.getD 1 0), 1, k1, k2] else [0, 0, 0, k1, 0]
def ctuZ (i o : List Int) (k0 k1 k2 _now : Int) : List Int :=
  let n := w16 (o.getD 1 0)
  let n := if nz (i.getD 1 0) then 0 else if nz (i.getD 0 0) && !nz (w32 k0) then min (n + 1) 32767 else n
  [tr (decide (w16 (i.getD 2 0) ≤ n)), n, tr (nz (i.getD 0 0)), w32 k1, w32 k2]
def ctdZ (i o : List Int) (k0 k1 k2 _now : Int) : List Int :=
  let n := w16 (o.getD 1 0)
  let n := if nz (i.getD 1 0) then w16 (i.getD 2 0) else if nz (i.getD 0 0) && !nz (w32 k0) then max (n - 1) (-32768) else n
  [tr (decide (n ≤ 0)), n, tr (nz (i.getD 0 0)), w32 k1, w32 k2]
def ctudZ (i o : List Int) (k0 k1 k2 _now : Int) : List Int :=
  let n := w16 (o.getD 2 0)
  let up := nz (i.getD 0 0) && !nz (w32 k0)
  let dn := nz (i.getD 1 0) && !nz (w32 k1)
  let n := if nz (i.getD 2 0) then 0 else if nz (i.getD 3 0) then w16 (i.getD 4 0) else if up && !dn then min (n + 1) 32767 else if dn && !up then max (n - 1) (-32768) else n
  [tr (decide (w16 (i.getD 4 0) ≤ n)), tr (decide (n ≤ 0)), n, tr (nz (i.getD 0 0)), tr (nz (i.getD 1 0)), w32 k2]
def rtrigZ (i _o : List Int) (k0 k1 k2 _now : Int) : List Int := [tr (nz (i.getD 0 0) && !nz (w32 k0)), tr (nz (i.getD 0 0)), w32 k1, w32 k2]
def ftrigZ (i _o : List Int) (k0 k1 k2 _now : Int) : List Int := [tr (!nz (i.getD 0 0) && nz (w32 k0)), tr (nz (i.getD 0 0)), w32 k1, w32 k2]
def srZ (i o : List Int) (k0 k1 k2 _now : Int) : List Int := [tr (nz (i.getD 0 0) || (nz (o.getD 0 0) && !nz (i.getD 1 0))), w32 k0, w32 k1, w32 k2]
def rsZ (i o : List Int) (k0 k1 k2 _now : Int) : List Int := [tr (!nz (i.getD 1 0) && (nz (i.getD 0 0) || nz (o.getD 0 0))), w32 k0, w32 k1, w32 k2]
/-- a block's step out of what the contract hands on: in, out, kept ones, the clock. -/
def stepZ (z : List Int → List Int → Int → Int → Int → Int → List Int) (l : List U) : U :=
  .l ((z ((l.getD 0 default).asL.map U.asI) ((l.getD 1 default).asL.map U.asI) (l.getD 2 default).asI (l.getD 3 default).asI (l.getD 4 default).asI (l.getD 5 default).asI).map U.i)
def arg1 (u : List U) : List U := (u.getD 0 default).asL
def fbF (k : Nat) (u : List U) : U :=
  match k with
  | 999 => .b (match u with | [.i g] => decide (g = 1) | _ => false)
  | 1 => stepZ tonZ (arg1 u)
  | 2 => stepZ tofZ (arg1 u)
  | 3 => stepZ tpZ (arg1 u)
  | 4 => stepZ ctuZ (arg1 u)
  | 5 => stepZ ctdZ (arg1 u)
  | 6 => stepZ ctudZ (arg1 u)
  | 7 => stepZ rtrigZ (arg1 u)
  | 8 => stepZ ftrigZ (arg1 u)
  | 9 => stepZ srZ (arg1 u)
  | 10 => stepZ rsZ (arg1 u)
  | 20 => (match u with | [a, b] => .i (a.asI % b.asI) | _ => default)
  | _ => default
def xs : List X → X
  | [] => .nil
  | a :: l => .o .cons a (xs l)
def ci : List CK := [.int .i64]
def stepOut (f : Nat) (ins : List X) (nout : Nat) (b c : Nat) (h : H) : SV × H :=
  let S : X := .u (.f f) (xs ins)
  (.tuple [.slice b 0 (.n 0) 1 (.n nout) (.v c), .agg ((List.range 3).map fun j => .int .i64 (.u (.fld (nout + j)) S))],
    { h with hp := [(b, .cells ((List.range nout).map fun j => .int .i64 (.u (.fld j) S)) 2 (.o .mul (.v c) (.n 1)))], nb := b + 1, nv := c + 1, fs := [laidF, .x (.o .le (.n nout) (.v c)), .x (.o .le (.v c) (.n 9223372036854775807))] })
/-- fb.Step of a block: in, out nil or a list of any length. -/
def stepK (nm : List Nat) (f no : Nat) (ni nu : Bool) : Ctr :=
  let row (i : Nat) : Blk := .rows false ci (.v i) 0 (.n 0)
  let bu := bif ni then 0 else 1
  let nb := bif nu then bu else bu + 1
  let h : H := { hp := (bif nu then [] else [(bu, row 1)]) ++ (bif ni then [] else [(0, row 0)]), nb, xb := 0, nv := 8, xv := 0, fs := [laidF] }
  ⟨[.str (.s nm), bif ni then .nils else .slice 0 0 (.n 0) 1 (.u .len (.v 0)) (.v 2), .agg [.int .i64 (.v 3), .int .i64 (.v 4), .int .i64 (.v 5)], bif nu then .nils else .slice bu 0 (.n 0) 1 (.u .len (.v 1)) (.v 6), .int .i64 (.v 7)], h,
    [stepOut f [bif ni then .nil else .v 0, bif nu then .nil else .v 1, .v 3, .v 4, .v 5, .v 7] no nb 8 h]⟩
/-- the state behind the branch in which a pin is laid. -/
def pinKind (nm : List Nat) : Nat := bif beqL nm [80, 84] || beqL nm [69, 84] then 11 else bif beqL nm [80, 86] || beqL nm [67, 86] then 3 else 1
def sliceX (h : H) : SV → Option X
  | .slice b _ _ _ _ _ => match fget h.hp b with
    | some (.rows _ _ x _ _) => some x
    | _ => none
  | _ => none
def layT (mk : Nat) (st : St) : Option St :=
  match fget st.fr 6, fget st.fr 7, fget st.fr 1, fget st.fr 3 with
  | some (.int _ i), some (.str (.s nm)), some l, some (.ptr ps _ _ _) => (sliceX st.h l).bind fun x =>
    match fget st.h.hp ps with
    | some (.cells [.ptr pb _ _ _] _ _) => match fget st.h.hp pb with
      | some (.cells (.map mb :: _) _ _) => match fget st.h.hp mb with
        | some (.map k m _) => some { st with fr := keepM mk st.fr, h := { st.h with hp := fset mb (.map k (mMset m (.s nm) (wrapX (pinKind nm) (mGet x i))) []) st.h.hp } }
        | _ => none
      | _ => none
    | _ => none
  | _, _, _, _ => none
def layJ (kp : Nat → Nat → Option Nat) (f k : Nat) (st : St) : Option St := bif Nat.beq f 29 && Nat.beq k 4 then (kp 29 4).bind fun mk => layT mk st else none
end Go.SE
end
