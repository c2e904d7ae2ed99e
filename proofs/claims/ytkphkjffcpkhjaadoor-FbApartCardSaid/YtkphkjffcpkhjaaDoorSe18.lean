import Derived.Test.YtkphkjffcpkhjaaDoorSe23
import Derived.Test.YtkphkjffcpkhjaaDoorSe29
/-! The symbolic executor: the executor. -/
noncomputable section
set_option linter.unusedSimpArgs false
set_option linter.unusedVariables false
namespace Go.SE

inductive Ex where
  | nor | exit (id : Nat) | ret
structure Out where
  ex : Ex
  st : St
abbrev CallF := Nat → List SV → H → Option (List Obl × List (SV × H))
structure Ctx where
  tt : Nat → Option Ty
  ft : Nat → Option Func
  mt : Nat → String → Option Nat
  hd : Nat → Option (List SV → H → Option (List Obl × List (SV × H)))
  lp : Nat → Nat → St → Option Tm
  /-- which places of the frame are still looked at behind a region (function, region); which state stands for all that come out of a branch (function, key, state ahead). -/
  kp : Nat → Nat → Option Nat
  jn : Nat → Nat → St → Option St
  /-- what is parted ahead of a region that draws its order. -/
  sp : Nat → Nat → St → List X

def forceI {α : Type} (n : Nat) (k : Nat → α) : α := k n
/-- (the kernel reckons the number ahead of going on.) -/
def force {α : Type} (n : Nat) (k : Nat → α) : α := @Nat.rec (fun _ => α) (k 0) (fun m _ => k (Nat.succ m)) n
theorem force_eq {α : Type} (n : Nat) (k : Nat → α) : force n k = k n := by cases n <;> rfl
def putS (d : Option Nat) (v : Option SV) (st : St) : Option St :=
  match d, v with
  | none, _ => some st
  | some d, some v => force st.n fun n => bif Nat.blt d n then some ⟨fset d v st.fr, n, st.h⟩ else none
  | some d, none => force st.n fun n => bif Nat.blt d n then some ⟨fset d (.tuple []) st.fr, n, st.h⟩ else none
def putAll (d : Option Nat) (st : St) : List (SV × H) → Option (List St)
  | [] => some []
  | (v, h) :: l => (putS d (some v) { st with h := h }).bind fun s => (putAll d st l).map fun r => s :: r

/-- the memory behind an operation, with what has been shown. -/
def afterH (d : Option Nat) (fs : List Fact) (gs : List X) (h : H) : H :=
  match d with
  | none => { h with fs := newFs fs gs }
  | some _ => h
def stepM (C : Ctx) (d : Option Nat) (o : Oper) (st : St) : Option (List Obl × List St) :=
  (memOp C.tt st.h d o.op (ev st.fr)).bind fun q =>
    (putS o.dst q.2.1 { st with h := afterH d st.h.fs q.1 q.2.2 }).map fun s => (obls st.h.fs q.1, [s])
def stepO (C : Ctx) (cf : CallF) (d : Option Nat) (o : Oper) (st : St) : Option (List Obl × List St) :=
  match o.op with
  | .call c => match c.callee with
    | .builtin .append => match c.args.toList, c.argTypes.toList with
      | [x, y], [t, u] => bif Nat.beq t u then (ev st.fr x).bind fun x => (ev st.fr y).bind fun y => (mAppA C.tt st.h d t x y).bind fun q => (putAll o.dst st q.2).map fun r => (obls st.h.fs q.1, r) else none
      | _, _ => none
    | .builtin _ => stepM C d o st
    | .value f => (ev st.fr f).bind fun f => match f with
      | .fn i caps => (evs (ev st.fr) c.args.toList).bind fun l => (C.ft i).bind fun _ => (cf i (l ++ caps) st.h).bind fun q => (putAll o.dst st q.2).map fun r => (q.1, r)
      | _ => none
    | .invoke r m => (ev st.fr r).bind fun r => match r with
      | .iface t v => (evs (ev st.fr) c.args.toList).bind fun l => (C.mt t m).bind fun i => (C.ft i).bind fun _ => (cf i (v :: l) st.h).bind fun q => (putAll o.dst st q.2).map fun r => (q.1, r)
      | _ => none
  | _ => stepM C d o st

inductive Wnt where
  | yes | no | fork (x : X) (d : Nat) (want : Bool)
def wnt (all : Array Oper) (o : Oper) (fr : List (Nat × SV)) : Option Wnt :=
  match o.guard with
  | none => some .yes
  | some (j, want) => ((all[j]?).bind (·.dst)).bind fun d => (fget fr d).bind fun v => match v with
    | .bool (.t b) => some (bif b == want then .yes else .no)
    | .bool x => some (.fork x d want)
    | .tuple [] => some .no
    | _ => none

def joinAll {α β : Type} (k : α → Option (List Obl × List β)) : List α → Option (List Obl × List β)
  | [] => some ([], [])
  | a :: l => (k a).bind fun q => (joinAll k l).map fun r => (q.1 ++ r.1, q.2 ++ r.2)
def thenAll {α β : Type} (r : Option (List Obl × List α)) (k : α → Option (List Obl × List β)) : Option (List Obl × List β) :=
  r.bind fun q => (joinAll k q.2).map fun s => (q.1 ++ s.1, s.2)
def both {β : Type} (a b : Option (List Obl × List β)) : Option (List Obl × List β) :=
  a.bind fun q => b.map fun r => (q.1 ++ r.1, q.2 ++ r.2)

def eith {β : Type} (k l : Bool) (a b : Option (List Obl × List β)) : Option (List Obl × List β) := bif k then a else bif l then b else both a b
def litB (x : X) (b : Bool) : X := bif b then x else mNot x
def assume (x : X) (b : Bool) (st : St) : St := { st with h := { st.h with fs := .x (litB x b) :: st.h.fs } }
def execOps (C : Ctx) (cf : CallF) (all : Array Oper) : List Oper → St → Option (List Obl × List St)
  | [], st => some ([], [st])
  | o :: rest, st => match wnt all o st.fr with
    | some .yes => thenAll (stepO C cf none o st) (execOps C cf all rest)
    | some .no => (putS o.dst none st).bind fun s => execOps C cf all rest s
    | some (.fork x d want) =>
      eith (known st.h.fs (litB x want)) (known st.h.fs (litB x (!want)))
        (thenAll (stepO C cf none o (assume x want { st with fr := fset d (.bool (.t want)) st.fr })) (execOps C cf all rest))
        ((putS o.dst none (assume x (!want) { st with fr := fset d (.bool (.t (!want))) st.fr })).bind fun s => execOps C cf all rest s)
    | none => none

/-! A region that draws its order: all orders come to one. What yields in whatever world is taken first. -/
def allB {α : Type} (p : α → Bool) (l : List α) : Bool := lfold (fun a b => bif p a then b else false) true l
def filB {α : Type} (p : α → Bool) (l : List α) : List α := lfold (fun a r => bif p a then a :: r else r) [] l
def bitsL (l : List Nat) : Nat := lfold (fun t m => Nat.lor (Nat.pow 2 t) m) 0 l
/-- an operation, made ready: its place, its bit, those ahead of it, what it writes, what it looks at, what those ahead write. -/
structure Rg where
  i : Nat
  b : Nat
  af : Nat
  d : Nat
  lk : Nat
  ad : Nat
  o : Oper
def dstB : Option Nat → Nat
  | some t => Nat.pow 2 t
  | none => 0
def aheads (o : Oper) : List Nat := (o.after.toList.filter fun e => Region.binds .any e).map fun e => e.on
def adB (all : Array Oper) (l : List Nat) : Nat := lfold (fun j m => Nat.lor (dstB ((all[j]?).bind fun o => o.dst)) m) 0 l
def rgOf (all : Array Oper) (i : Nat) (o : Oper) : Rg := let l := aheads o; ⟨i, Nat.pow 2 i, bitsL l, dstB o.dst, bitsL (o.looksAt all), adB all l, o⟩
def prepGo (all : Array Oper) : Nat → List Oper → List Rg
  | _, [] => []
  | i, o :: r => rgOf all i o :: prepGo all (i + 1) r
def prep (all : Array Oper) : List Rg := prepGo all 0 all.toList
def readyP (l : List Rg) (m : Nat) : List Rg := filB (fun r => bif Nat.beq (Nat.land r.b m) 0 then Nat.beq (Nat.land r.af m) r.af else false) l
def rdB (l : List Rg) : Nat := lfold (fun r m => Nat.lor r.d m) 0 l
def disjB : List Rg → Bool
  | [] => true
  | r :: l => bif Nat.beq (Nat.land r.d (rdB l)) 0 then disjB l else false
def noSel : Op → Bool
  | .select _ _ => false
  | _ => true
/-- what those write that wait for it. -/
def laterB (l : List Rg) (b : Nat) : Nat := lfold (fun s m => bif Nat.beq (Nat.land s.af b) 0 then m else Nat.lor s.d m) 0 l
def lookB (l : List Rg) (D : Nat) (r : Rg) : Bool :=
  let x := Nat.land r.lk D
  bif Nat.beq (Nat.land x r.ad) x then true else Nat.beq (Nat.land x (Nat.lor (Nat.lor r.ad r.d) (laterB l r.b))) x
/-- does each write a place of its own, and look only at what those ahead write, or those that wait for it, or none here? -/
def ssaB (l : List Rg) : Bool :=
  bif disjB l then let D := rdB l; allB (fun r => bif noSel r.o.op then lookB l D r else false) l else false
/-- the same as wnt, where what is known decides. -/
def wntD (fs : List Fact) (all : Array Oper) (o : Oper) (fr : List (Nat × SV)) : Option Wnt :=
  match wnt all o fr with
  | some (.fork x d want) => bif known fs (litB x want) then some .yes else bif known fs (litB x (!want)) then some .no else some (.fork x d want)
  | r => r
def stepD (C : Ctx) (cf : CallF) (all : Array Oper) (i : Nat) (o : Oper) (st : St) : Option (List Obl × St) :=
  match wntD st.h.fs all o st.fr with
    | some .yes => match stepO C cf (some i) o st with
      | some (ob, [s]) => some (ob, s)
      | _ => none
    | some .no => (putS o.dst none st).map fun s => ([], s)
    | _ => none
/-- a truth value that is known. -/
def litK (fs : List Fact) : SV → SV
  | .bool (.t b) => .bool (.t b)
  | .bool x => bif known fs x then .bool (.t true) else bif known fs (mNot x) then .bool (.t false) else .bool x
  | v => v
/-- a step that yields in whatever world. -/
def stepP (C : Ctx) (all : Array Oper) (o : Oper) (st : St) : Option (List Obl × St) :=
  match wntD st.h.fs all o st.fr with
    | some .yes => (pureOp C.tt o.op (ev st.fr)).bind fun q => (putS o.dst (some (litK st.h.fs q.2)) st).map fun s => (obls st.h.fs q.1, s)
    | some .no => (putS o.dst none st).map fun s => ([], s)
    | _ => none
def firstP (C : Ctx) (all : Array Oper) (st : St) : List Rg → Option (Rg × List Obl × St)
  | [] => none
  | r :: l => match stepP C all r.o st with
    | some q => some (r, q.1, q.2)
    | none => firstP C all st l
def insL (m : Nat) (st : St) : List (Nat × St) → Option (List (Nat × St))
  | [] => some [(m, st)]
  | (k, s) :: l => bif Nat.beq k m then (bif Steq s st then some ((k, s) :: l) else none) else (insL m st l).map fun r => (k, s) :: r
def stepL (C : Ctx) (cf : CallF) (all : Array Oper) (mask : Nat) (st : St) : List Rg → List (Nat × St) → Option (List Obl × List (Nat × St))
  | [], acc => some ([], acc)
  | r :: l, acc => (stepD C cf all r.i r.o st).bind fun q => (insL (Nat.lor mask r.b) q.2 acc).bind fun acc => (stepL C cf all mask st l acc).map fun r => (q.1 ++ r.1, r.2)
def stepAll (C : Ctx) (cf : CallF) (all : Array Oper) (pre : List Rg) (sf : Bool) : List (Nat × St) → List (Nat × St) → Option (List Obl × List (Nat × St))
  | [], acc => some ([], acc)
  | (m, st) :: l, acc => match readyP pre m with
    | [] => none
    | r => match (bif sf then firstP C all st r else none) with
      | some q => (insL (Nat.lor m q.1.b) q.2.2 acc).bind fun acc => (stepAll C cf all pre sf l acc).map fun s => (q.2.1 ++ s.1, s.2)
      | none => (stepL C cf all m st r acc).bind fun q => (stepAll C cf all pre sf l q.2).map fun s => (q.1 ++ s.1, s.2)
def dpRun (C : Ctx) (cf : CallF) (all : Array Oper) (pre : List Rg) (sf : Bool) : Nat → List (Nat × St) → Option (List Obl × St)
  | 0, [(m, st)] => match readyP pre m with
    | [] => some ([], st)
    | _ => none
  | 0, _ => none
  | f + 1, l => (stepAll C cf all pre sf l []).bind fun q => (dpRun C cf all pre sf f q.2).map fun r => (q.1 ++ r.1, r.2)
/-- behind such a region. -/
def settleD (n : Nat) (st : St) : St := { st with h := { st.h with nb := st.h.nb + n, xb := 0, nv := st.h.nv + n, xv := 0 } }
def execDraw (C : Ctx) (cf : CallF) (all : Array Oper) (st : St) : Option (List Obl × List St) :=
  (let pre := prep all; dpRun C cf all pre (ssaB pre) all.size [(0, st)]).bind fun q => bif Nat.blt q.2.h.xb (2 ^ all.size) && Nat.blt q.2.h.xv (2 ^ all.size) then some (q.1, [settleD all.size q.2]) else none

def splitD (run : St → Option (List Obl × List St)) : List X → St → Option (List Obl × List St)
  | [], st => run st
  | x :: l, st => bif x.vs st.h.alVb then both (splitD run l (assume x true st)) (splitD run l (assume x false st)) else none
def isNor : Ex → Bool
  | .nor => true
  | _ => false
def inBlk (id : Nat) (o : Out) : Out :=
  match o.ex with
  | .exit j => bif Nat.beq j id then ⟨.nor, o.st⟩ else o
  | _ => o
def loopKey : Code → Nat
  | .region id _ _ => id
  | .seq a _ => loopKey a
  | .block _ b => loopKey b
  | .scope b => loopKey b
  | .loop b => loopKey b
  | _ => 0
/-- what an outcome of a round must serve for: what is to be shown, what leaves the loop. -/
def roundT (h0 : H) (t : Tm) : List Out → Option (List Obl × List Out)
  | [] => some ([], [])
  | o :: r => (roundT h0 t r).bind fun q => match o.ex with
    | .nor =>
      let g := infer h0 t.T o.st t.g1
      (genSt h0 t.T o.st g).bind fun F => bif t.m.vs (blt' t.T.h.nv) then
        some (fob o.st.h.fs (.x (.o .le (.n 0) (t.m.sub g.f)) :: .x (.o .lt (t.m.sub g.f) t.m) :: F) ++ q.1, q.2) else none
    | _ => some (q.1, o :: q.2)
def loopT (body : St → Option (List Obl × List Out)) (t : Tm) (st : St) : Option (List Obl × List Out) :=
  (genSt st.h t.T st (infer st.h t.T st t.g0)).bind fun F => (body t.T).bind fun q => (roundT st.h t q.2).map fun r => (fob st.h.fs F ++ (q.1 ++ r.1), r.2)
def execLoop (body : St → Option (List Obl × List Out)) (tm : St → Option Tm) : Nat → St → Option (List Obl × List Out)
  | 0, _ => none
  | f + 1, st => match tm st with
    | some t => loopT body t st
    | none => thenAll (body st) fun o => match o.ex with
      | .nor => execLoop body tm f o.st
      | _ => some ([], [o])
def nors (r : Option (List Obl × List St)) : Option (List Obl × List Out) := r.map fun q => (q.1, q.2.map fun s => ⟨.nor, s⟩)

def keepR (m : Option Nat) (r : Option (List Obl × List St)) : Option (List Obl × List St) :=
  match m with
  | none => r
  | some m => r.map fun q => (q.1, q.2.map fun s => { s with fr := keepM m s.fr })
/-- all that go on behind a branch brought to one state. -/
def joinT (h0 : H) (T : St) : List Out → Option (List Obl × List Out)
  | [] => some ([], [⟨.nor, T⟩])
  | o :: r => match o.ex with
    | .nor => (genSt h0 T o.st (infer h0 T o.st [])).bind fun F => (joinT h0 T r).map fun q => (fob o.st.h.fs F ++ q.1, q.2)
    | _ => (joinT h0 T r).map fun q => (q.1, o :: q.2)
def joinR (h0 : H) (T : Option St) (r : Option (List Obl × List Out)) : Option (List Obl × List Out) :=
  match T with
  | none => r
  | some T => r.bind fun q => (joinT h0 T q.2).map fun s => (q.1 ++ s.1, s.2)
def resOne (C : Ctx) (st : St) : ResultVar → Option (List X × SV)
  | .tmp t => (fget st.fr t).map fun v => ([], v)
  | .cell a t => (fget st.fr a).bind fun p => (mLoad C.tt st.h t p).bind fun q => q.2.1.map fun v => (q.1, v)
def resAll (C : Ctx) (st : St) : List ResultVar → Option (List X × List SV)
  | [] => some ([], [])
  | r :: l => (resOne C st r).bind fun q => (resAll C st l).map fun s => (q.1 ++ s.1, q.2 :: s.2)
def resS (C : Ctx) (fn : Func) (o : Out) : Option (List Obl × List (SV × H)) :=
  match o.ex with
  | .exit _ => none
  | _ => (resAll C o.st fn.results.toList).map fun q =>
    (obls o.st.h.fs q.1, [((match q.2 with | [v] => v | l => .tuple l), { o.st.h with fs := newFs o.st.h.fs q.1 })])
def frOf : Nat → List SV → List (Nat × SV) → List (Nat × SV)
  | _, [], acc => acc
  | i, v :: l, acc => frOf (i + 1) l ((i, v) :: acc)
def callIn (C : Ctx) (ex : Nat → Code → St → Option (List Obl × List Out)) : CallF := fun i args h =>
  match C.hd i with
  | some k => k args h
  | none => (C.ft i).bind fun fn => fn.body.bind fun c =>
    bif Nat.ble args.length fn.ntmps then thenAll (ex i c ⟨frOf 0 args [], fn.ntmps, h⟩) (resS C fn) else none

def execCode (C : Ctx) : Nat → Nat → Code → St → Option (List Obl × List Out)
  | 0, _, _, _ => none
  | f + 1, i, c, st => match c with
    | .skip => some ([], [⟨.nor, st⟩])
    | .label _ => some ([], [⟨.nor, st⟩])
    | .region id ops false => nors (keepR (C.kp i id) (execOps C (callIn C (execCode C f)) ops ops.toList st))
    | .region id ops true => nors (keepR (C.kp i id) (splitD (execDraw C (callIn C (execCode C f)) ops) (C.sp i id st) st))
    | .seq a b => thenAll (execCode C f i a st) fun o => match o.ex with
      | .nor => execCode C f i b o.st
      | _ => some ([], [o])
    | .cond x a b => (ev st.fr x).bind fun v => match v with
      | .bool (.t true) => execCode C f i a st
      | .bool (.t false) => execCode C f i b st
      | .bool x => bif known st.h.fs x then execCode C f i a st else bif known st.h.fs (mNot x) then execCode C f i b st else
        joinR st.h (C.jn i (loopKey a) st) (both (execCode C f i a (assume x true st)) (execCode C f i b (assume x false st)))
      | _ => none
    | .block id b => joinR st.h (C.jn i (Nat.add 1000 id) st) ((execCode C f i b st).map fun q => (q.1, q.2.map (inBlk id)))
    | .loop b => execLoop (execCode C f i b) (C.lp i (loopKey b)) f st
    | .scope b => execCode C f i b st
    | .exit id => some ([], [⟨.exit id, st⟩])
    | .ret => some ([], [⟨.ret, st⟩])
    | _ => none
def execCall (C : Ctx) (f : Nat) : CallF := callIn C (execCode C f)
end Go.SE
end
