import Derived.Test.YtkphkjffcpkhjaaDoorSe2
import Derived.Tactics
import Derived.WalkMore
/-! The symbolic executor: types, and the operations that look at no memory. -/
noncomputable section
set_option linter.unusedSimpArgs false
set_option linter.unusedVariables false
namespace Go.SE

inductive UL where
  | bool | int (k : IntKind) | str | ptr (e : Nat) | slice (e : Nat) | arr (n e : Nat) | map (k e : Nat)
  | struct (fs : List (Nat × Nat × Nat)) | func | iface | other
structure Ty where
  ul : UL
  size : Nat
  bytes : Nat
  zero : Option SV

def ULOk (P : Program) (t : Nat) : UL → Prop
  | .bool => P.underlying t = some .bool
  | .int k => P.underlying t = some (.int k)
  | .str => P.underlying t = some .string
  | .ptr e => P.underlying t = some (.pointer e)
  | .slice e => P.underlying t = some (.slice e)
  | .arr n e => P.underlying t = some (.array n e)
  | .map k e => P.underlying t = some (.map k e)
  | .struct fs => ∃ F, P.underlying t = some (.struct F) ∧ F.toList.map (fun f => (f.type, f.offset)) = fs.map (fun q => (q.1, q.2.1)) ∧ ∀ q ∈ fs, ∃ i, P.info? q.1 = some i ∧ i.size = q.2.2
  | .func => ∃ ps rs v, P.underlying t = some (.func ps rs v)
  | .iface => ∃ ms, P.underlying t = some (.interface ms)
  | .other => True
structure TyOk (P : Program) (t : Nat) (ty : Ty) : Prop where
  info : ∃ i, P.info? t = some i ∧ i.size = ty.size ∧ i.bytes = ty.bytes ∧ (∀ z, ty.zero = some z → ∀ ρ σ, i.zero = some (z.val ρ σ))
  ul : ULOk P t ty.ul
def TabOk (P : Program) (tt : Nat → Option Ty) : Prop := ∀ t ty, tt t = some ty → TyOk P t ty

/-- what must hold, and what comes of it. -/
abbrev PR := Option (List X × SV)
def okp (s : SV) : PR := some ([], s)

def mIteB (x a b : X) : X :=
  match b with
  | .t false => mB2 .and x a
  | b => match a with
    | .t true => mB2 .or x b
    | a => mB2 .or (mB2 .and x a) (mB2 .and (mNot x) b)
theorem mIteB_den (ρ : Env) (x a b : X) : ((mIteB x a b).den ρ).asB = if (x.den ρ).asB then (a.den ρ).asB else (b.den ρ).asB := by
  unfold mIteB
  split
  · simp [mB2_den, O2.den, X.den]
  · split
    · simp [mB2_den, O2.den, X.den]
    · simp [mB2_den, O2.den, mNot_den]; cases (x.den ρ).asB <;> simp

def pPick : SV → Option SV → Option SV → PR
  | .bool (.t true), some a, _ => okp a
  | .bool (.t false), _, some b => okp b
  | .bool x, some (.bool a), some (.bool b) => okp (.bool (mIteB x a b))
  | _, _, _ => none

def cmpZ : BinOp → X → X → Option X
  | .eql, a, b => some (mB2 .eq a b)
  | .neq, a, b => some (mNot (mB2 .eq a b))
  | .lss, a, b => some (mB2 .lt a b)
  | .leq, a, b => some (mB2 .le a b)
  | .gtr, a, b => some (mB2 .lt b a)
  | .geq, a, b => some (mB2 .le b a)
  | _, _, _ => none
def notZero : X → List X
  | .n v => bif decide (v = 0) then [.t false] else []
  | b => [mNot (mB2 .eq b (.n 0))]
def notNeg : X → List X
  | .n v => bif decide (v < 0) then [.t false] else []
  | b => [mB2 .le (.n 0) b]
def pBin (op : BinOp) : SV → SV → PR
  | .int k a, .int k' b =>
    match op with
    | .shl => some (notNeg b, .int k (mI2 (.shl k) a b))
    | .shr => some (notNeg b, .int k (mI2 (.shr k) a b))
    | _ => bif decide (k = k') then
      match op with
      | .add => okp (.int k (mWrap k (mI2 .add a b)))
      | .sub => okp (.int k (mWrap k (mI2 .sub a b)))
      | .mul => okp (.int k (mWrap k (mI2 .mul a b)))
      | .quo => some (notZero b, .int k (mWrap k (mI2 .quo a b)))
      | .rem => some (notZero b, .int k (mI2 .rem a b))
      | .and => okp (.int k (mI2 (.bit .and k) a b))
      | .or => okp (.int k (mI2 (.bit .or k) a b))
      | .xor => okp (.int k (mI2 (.bit .xor k) a b))
      | .andNot => okp (.int k (mI2 (.bit .andNot k) a b))
      | op => (cmpZ op a b).map fun x => ([], .bool x)
      else none
  | .str a, .str b =>
    match op with
    | .eql => okp (.bool (mB2 .eqs a b))
    | .neq => okp (.bool (mNot (mB2 .eqs a b)))
    | _ => none
  | _, _ => none

theorem cmpZ_ok {P : Program} {op : BinOp} {a b x : X} (h : cmpZ op a b = some x) (ρ : Env) (w : World) :
    (Op.intCmp op (a.den ρ).asI (b.den ρ).asI).run P w = .ok (.bool (x.den ρ).asB) w := by
  cases op <;> simp only [cmpZ, Option.some.injEq, reduceCtorEq] at h <;> subst h <;>
    simp [Op.intCmp, pure, mB2_den, mNot_den, O2.den, ilt, ile, ieq, bne, BEq.beq]
theorem notZero_ok {ρ : Env} {b : X} (h : ∀ e ∈ notZero b, (e.den ρ).asB = true) : (b.den ρ).asI ≠ 0 := by
  unfold notZero at h
  split at h
  · rename_i v
    intro e
    have e : v = 0 := e
    simp [e, X.den] at h
  · have := h _ (List.mem_singleton_self _)
    rw [mNot_den, mB2_den] at this
    intro e
    simp [O2.den, X.den, ieq, e] at this
theorem notNeg_ok {ρ : Env} {b : X} (h : ∀ e ∈ notNeg b, (e.den ρ).asB = true) : ¬ (b.den ρ).asI < 0 := by
  unfold notNeg at h
  split at h
  · rename_i v
    intro e
    have e : v < 0 := e
    simp [e, X.den] at h
  · have := h _ (List.mem_singleton_self _)
    simp [mB2_den, O2.den, X.den] at this
    omega

theorem pBinI_ok {P : Program} {op : BinOp} {k : IntKind} {a b : X} {s : SV} {g : List X} (h : pBin op (.int k a) (.int k b) = some (g, s)) (ρ : Env) (σ : Pl) (w : World)
    (hg : ∀ e ∈ g, (e.den ρ).asB = true) (t : TypeId) : (binOp op t (.int k (a.den ρ).asI) (.int k (b.den ρ).asI)).run P w = .ok (s.val ρ σ) w := by
  cases op <;> simp only [pBin, okp, decide_true, cond_true, cmpZ, Option.map_some, Option.map_none, Option.some.injEq, Prod.mk.injEq, reduceCtorEq] at h <;>
    obtain ⟨rfl, rfl⟩ := h
  case quo => have := notZero_ok hg; simp [SV.val, binOp, Op.intDiv, this, mI2_den, mWrap_den, O2.den]
  case rem => have := notZero_ok hg; simp [SV.val, binOp, Op.intDiv, this, mI2_den, O2.den]
  case shl => have := notNeg_ok hg; simp [SV.val, binOp, Op.shift, this, mI2_den, O2.den, shlZ]
  case shr => have := notNeg_ok hg; simp [SV.val, binOp, Op.shift, this, mI2_den, O2.den, shrZ]
  all_goals simp [SV.val, binOp, Op.intArith, Op.intBits, Op.intCmp, mI2_den, mWrap_den, mB2_den, mNot_den, O2.den, bitsZ, ilt, ile, ieq, bne, BEq.beq]

theorem pBin_ok {P : Program} {op : BinOp} {x y s : SV} {g : List X} (h : pBin op x y = some (g, s)) (ρ : Env) (σ : Pl) (w : World)
    (hg : ∀ e ∈ g, (e.den ρ).asB = true) (t : TypeId) : (binOp op t (x.val ρ σ) (y.val ρ σ)).run P w = .ok (s.val ρ σ) w := by
  cases x <;> cases y <;> (try (simp only [pBin, reduceCtorEq] at h; done))
  case int.int k a k' b =>
    by_cases hk : k = k'
    · subst hk
      exact pBinI_ok h ρ σ w hg t
    · have hd : decide (k = k') = false := by simpa using hk
      cases op <;> simp only [pBin, hd, cond_false, Option.some.injEq, Prod.mk.injEq, reduceCtorEq] at h <;> obtain ⟨rfl, rfl⟩ := h
      · have := notNeg_ok hg; simp [SV.val, binOp, Op.shift, this, mI2_den, O2.den, shlZ]
      · have := notNeg_ok hg; simp [SV.val, binOp, Op.shift, this, mI2_den, O2.den, shrZ]
  case str.str a b =>
    cases op <;> simp only [pBin, okp, Option.some.injEq, Prod.mk.injEq, reduceCtorEq] at h <;> obtain ⟨rfl, rfl⟩ := h <;>
      simp [SV.val, go_sem, mB2_den, mNot_den, O2.den]

theorem eqGuard_ok {P : Program} {op : BinOp} {x y s : SV} {g : List X} (h : pBin op x y = some (g, s)) (ρ : Env) (σ : Pl) (w : World) (t : TypeId) (p q : Operand) :
    (eqGuard op t p q (x.val ρ σ) (y.val ρ σ)).run P w = .ok () w := by
  cases x <;> cases y <;> simp only [pBin, reduceCtorEq] at h <;> cases op <;> simp [eqGuard, SV.val]
end Go.SE
end
