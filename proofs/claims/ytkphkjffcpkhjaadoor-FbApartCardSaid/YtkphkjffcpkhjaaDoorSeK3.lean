import Derived.Test.YtkphkjffcpkhjaaDoorSeK2
/-! FbApart: contracts and the loop of Nums (data). -/
noncomputable section
set_option linter.unusedSimpArgs false
set_option linter.unusedVariables false
namespace Go.SE
/-- no more than 20, as the law's own test says it. -/
def le20 (x : X) : Fact := .x (.u .not (.o .lt (.n 20) x))
def lenV (i : Nat) : X := .u .len (.v i)
def viewR (x : X) : Blk := .rows false ci x 0 (.n 0)
def numsK : Ctr :=
  let h : H := ⟨[(1, viewR (.v 0)), (0, viewR (.v 0))], 2, 0, 3, 0, [le20 (lenV 0)]⟩
  ⟨[.slice 0 0 (.n 0) 1 (lenV 0) (.v 1), .slice 1 0 (.n 0) 1 (lenV 0) (.v 2)], h, [(.bool (.t true), h)]⟩
def numsNN : Ctr := ⟨[.nils, .nils], e0 0, [(.bool (.t true), e0 0)]⟩
def numsNE : Ctr :=
  let h : H := ⟨[(0, viewR .nil)], 1, 0, 1, 0, []⟩
  ⟨[.nils, .slice 0 0 (.n 0) 1 (.n 0) (.v 0)], h, [(.bool (.t true), h)]⟩
def numsT (st : St) : Option Tm :=
  match fget st.fr 0, fget st.fr 1 with
  | some (.slice ab aj ar aw len ac), some y =>
    let v := st.h.nv
    let fr := [(5, xint .i64 v), (1, y), (0, .slice ab aj ar aw len ac)]
    some ⟨⟨fr, st.n, { st.h with nv := v + 1, fs := .x (.o .lt (.n (-1)) (.v v)) :: st.h.fs }⟩, .o .sub len (.v v), [], []⟩
  | _, _ => none
def lpNums (f k : Nat) (st : St) : Option Tm := bif Nat.beq f 18 && Nat.beq k 4 then (match fget st.fr 0 with | some (.slice _ _ _ _ (.n _) _) => none | _ => numsT st) else none
/-- what is handed in: nothing, no number, numbers. -/
def givenS (n b v : Nat) : SV := match n with
  | 0 => .nils
  | 1 => .slice b 0 (.n 0) 1 (.n 0) (.v (v + 1))
  | _ => .slice b 0 (.n 0) 1 (lenV v) (.v (v + 1))
def givenB (n b v : Nat) : List (Nat × Blk) := match n with
  | 0 => []
  | 1 => [(b, viewR .nil)]
  | _ => [(b, viewR (.v v))]
def givenF (n v : Nat) : List Fact := match n with
  | 2 => [.x (.o .lt (.n 0) (lenV v))]
  | _ => []
def apartK (i o : Nat) : Ctr :=
  let ib := match i with | 0 => 0 | _ => 1
  let ob := match o with | 0 => ib | _ => ib + 1
  let h : H := ⟨givenB o ib 7 ++ givenB i 0 5, ob, 0, 9, 0, givenF o 7 ++ (givenF i 5 ++ [laidF])⟩
  ⟨[i64 (.v 0), givenS i 0 5, .agg [i64 (.v 1), i64 (.v 2), i64 (.v 3)], givenS o ib 7, i64 (.v 4)], h, [(.bool (.t true), h)]⟩
def stepKs (s : List Nat) (f n : Nat) : List Ctr := [stepK s f n false false, stepK s f n false true, stepK s f n true false, stepK s f n true true]
def bookAp : Book := [(12, [knownK]), (14, [placeC 10]), (18, [numsK, numsNN, numsNE]),
  (16, stepKs sTON 1 2 ++ (stepKs sTOF 2 2 ++ (stepKs sTP 3 2 ++ (stepKs sCTU 4 2 ++ (stepKs sCTD 5 2 ++ (stepKs sCTUD 6 3 ++ (stepKs sR_TRIG 7 1 ++ (stepKs sF_TRIG 8 1 ++ (stepKs sSR 9 1 ++ stepKs sRS 10 1)))))))))]
end Go.SE
end
