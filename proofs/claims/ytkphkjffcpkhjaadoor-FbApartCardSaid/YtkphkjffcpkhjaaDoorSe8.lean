import Derived.Test.YtkphkjffcpkhjaaDoorSe7
import Derived.Test.YtkphkjffcpkhjaaDoorSe30
/-! The symbolic executor: one function for the operations that look at no memory, and its law. -/
noncomputable section
set_option linter.unusedSimpArgs false
set_option linter.unusedVariables false
namespace Go.SE
variable {P : Program}

theorem pCat_ok {x y s : SV} {g : List X} (h : pCat x y = some (g, s)) (ρ : Env) (σ : Pl) (w : World)
    (hg : ∀ e ∈ g, (e.den ρ).asB = true) (hb : ∀ a b, x = .str (.s a) → y = .str (.s b) → a.length + b.length < 1000000) (t : TypeId) :
    (binOp .add t (x.val ρ σ) (y.val ρ σ)).run P w = .ok (s.val ρ σ) w := by
  unfold pCat at h
  split at h
  · rename_i a b
    simp only [okp, Option.some.injEq, Prod.mk.injEq] at h
    obtain ⟨rfl, rfl⟩ := h
    have := hb a b rfl rfl
    simp only [SV.val, binOp, Op.stringOp, X.den, asS_s]
    have e1 : (bytesOf a).size = a.length := by simp [bytesOf, ByteArray.size]
    have e2 : (bytesOf b).size = b.length := by simp [bytesOf, ByteArray.size]
    rw [if_neg (by rw [e1, e2]; simp [IntKind.max, IntKind.signed, IntKind.bits]; omega)]
    rw [bytesOf_append]; rfl
  · rename_i a b _
    simp only [Option.some.injEq, Prod.mk.injEq] at h
    obtain ⟨rfl, rfl⟩ := h
    have h1 := hg _ (List.mem_singleton_self _)
    simp [mB2_den, O2.den, X.den, mI2_den, mSlen_den] at h1
    simp only [SV.val, binOp, Op.stringOp, X.den]
    rw [if_neg (by simp [IntKind.max, IntKind.signed, IntKind.bits]; omega)]
    rfl
  · cases h

def evs (e : Operand → Option SV) : List Operand → Option (List SV)
  | [] => some []
  | x :: l => (e x).bind fun s => (evs e l).map fun r => s :: r
def evp (e : Operand → Option SV) : List (Nat × Operand) → Option (List (Nat × SV))
  | [] => some []
  | (i, x) :: l => (e x).bind fun s => (evp e l).map fun r => (i, s) :: r
theorem evs_ok {e : Operand → Option SV} {f : Operand → Value} {ρ : Env} {σ : Pl} (he : ∀ x s, e x = some s → f x = s.val ρ σ) :
    ∀ {l : List Operand} {r : List SV}, evs e l = some r → l.map f = r.map (SV.val ρ σ)
  | [], r, h => by simp only [evs, Option.some.injEq] at h; subst h; rfl
  | x :: l, r, h => by
    simp only [evs] at h
    cases h1 : e x with
    | none => simp [h1] at h
    | some s =>
      cases h2 : evs e l with
      | none => simp [h1, h2] at h
      | some q =>
        simp [h1, h2] at h; subst h
        simp [he x s h1, evs_ok he h2]
theorem evp_ok {e : Operand → Option SV} {f : Operand → Value} {ρ : Env} {σ : Pl} (he : ∀ x s, e x = some s → f x = s.val ρ σ) :
    ∀ {l : List (Nat × Operand)} {r : List (Nat × SV)}, evp e l = some r → l.map (fun q => (q.1, f q.2)) = r.map fun q => (q.1, q.2.val ρ σ)
  | [], r, h => by simp only [evp, Option.some.injEq] at h; subst h; rfl
  | (i, x) :: l, r, h => by
    simp only [evp] at h
    cases h1 : e x with
    | none => simp [h1] at h
    | some s =>
      cases h2 : evp e l with
      | none => simp [h1, h2] at h
      | some q =>
        simp [h1, h2] at h; subst h
        simp [he x s h1, evp_ok he h2]

def pBinAll (tt : Nat → Option Ty) (op : BinOp) (t : Nat) (x y : SV) : PR :=
  match pBin op x y with
  | some r => some r
  | none => match op with
    | .add => match x, y with
      | .str (.s a), .str (.s b) => bif Nat.blt (a.length + b.length) 1000000 then pCat (.str (.s a)) (.str (.s b)) else none
      | x, y => pCat x y
    | .eql => match x, y with
      | .bool a, .bool b => (tt t).bind fun ty => match ty.ul with | .bool => okp (.bool (mB2 .eqb a b)) | _ => none
      | x, y => bif isNil x && isNil y then none else (nilEq tt t x y).map fun b => ([], .bool (.t b))
    | .neq => match x, y with
      | .bool a, .bool b => (tt t).bind fun ty => match ty.ul with | .bool => okp (.bool (mNot (mB2 .eqb a b))) | _ => none
      | x, y => bif isNil x && isNil y then none else (nilEq tt t x y).map fun b => ([], .bool (.t (!b)))
    | _ => none

def pureOp (tt : Nat → Option Ty) (o : Op) (e : Operand → Option SV) : PR :=
  match o with
  | .move x => okp' (e x)
  | .assign x => okp' (e x)
  | .pick c a b => (e c).bind fun c => pPick c (e a) (e b)
  | .build t ps => (evp e ps.toList).bind fun l => pBuild tt t l
  | .nilCheck x => (e x).bind fun s => match s with
    | .ptr b r w j => okp (.ptr b r w j)
    | .iface t v => okp (.iface t v)
    | _ => none
  | .binOp op t x y _ => (e x).bind fun x => (e y).bind fun y => match x, y with
    | .agg l, .agg m => pAggEq tt op t l m
    | x, y => pBinAll tt op t x y
  | .unOp op _ x => (e x).bind fun x => pUn op x
  | .convert src dst x => (e x).bind fun x => pConv' tt src dst x
  | .makeInterface t x => (e x).bind fun x => (tt t).bind fun ty => match ty.ul with
    | .iface => none
    | .other => none
    | _ => okp (.iface t x)
  | .makeFunc (.func f) first captured => match first.toList with
    | [] => (evs e captured.toList).map fun l => ([], .fn f l)
    | _ => none
  | .fieldAddr t x f => (e x).bind fun x => pFieldAddr tt t f x
  | .field t x f => (e x).bind fun x => pField tt t f x
  | .indexAddr t x y => (e x).bind fun x => (e y).bind fun y => pIndexAddr tt t x y
  | .index t x y => (e x).bind fun x => (e y).bind fun y => pIndex tt t x y
  | .slice t x lo hi none => (e x).bind fun x => match lo, hi with
    | none, none => pSlice tt t x none none
    | some l, none => (e l).bind fun l => pSlice tt t x (some l) none
    | none, some h => (e h).bind fun h => pSlice tt t x none (some h)
    | some l, some h => (e l).bind fun l => (e h).bind fun h => pSlice tt t x (some l) (some h)
  | .extract x i => (e x).bind fun x => match x with
    | .tuple l => okp' (l[i]?)
    | _ => none
  | .call c => match c.callee with
    | .builtin .len => match c.args.toList, c.argTypes.toList with
      | [x], [t] => (e x).bind fun x => pLen tt t x
      | _, _ => none
    | .builtin .min => (evs e c.args.toList).bind fun l => pMinMax false l
    | .builtin .max => (evs e c.args.toList).bind fun l => pMinMax true l
    | _ => none
  | _ => none

theorem eqGuard_gen (op : BinOp) (t : TypeId) (p q : Operand) (a b : Value) (w : World) (h1 : ¬ (a = .nilIface ∧ b = .nilIface)) (h2 : ∀ c d, ¬ (a = .agg c ∧ b = .agg d)) :
    (eqGuard op t p q a b).run P w = .ok () w := by
  unfold eqGuard
  cases op <;> simp only [Bool.not_eq_true', Bool.not_false, Bool.not_true, if_true, Bool.false_eq_true, if_false, pure_bind] <;> (try (simp; done)) <;>
    (split <;> first | (exact absurd ⟨rfl, rfl⟩ h1) | (exact absurd ⟨rfl, rfl⟩ (h2 _ _)) | simp)

theorem pBinAll_ok {tt : Nat → Option Ty} (ht : TabOk P tt) {op : BinOp} {t : Nat} {x y s : SV} {g : List X} (h : pBinAll tt op t x y = some (g, s)) (ρ : Env) (σ : Pl) (w : World)
    (hg : ∀ e ∈ g, (e.den ρ).asB = true) : (binOp op t (x.val ρ σ) (y.val ρ σ)).run P w = .ok (s.val ρ σ) w ∧ ¬ (x.val ρ σ = .nilIface ∧ y.val ρ σ = .nilIface) ∧ ∀ c d, ¬ (x.val ρ σ = .agg c ∧ y.val ρ σ = .agg d) := by
  unfold pBinAll at h
  split at h
  · rename_i r hr
    simp only [Option.some.injEq] at h
    subst h
    refine ⟨pBin_ok hr ρ σ w hg t, ?_, ?_⟩
    · cases x <;> cases y <;> simp only [pBin, reduceCtorEq] at hr <;> simp [SV.val]
    · intro c d; cases x <;> cases y <;> simp only [pBin, reduceCtorEq] at hr <;> simp [SV.val]
  · rename_i hnone
    have nils : ∀ b, nilEq tt t x y = some b → (isNil x && isNil y) = false → ((binOp .eql t (x.val ρ σ) (y.val ρ σ) = (do pure (.bool (← Op.equal t (x.val ρ σ) (y.val ρ σ))))) ∧
        (binOp .neq t (x.val ρ σ) (y.val ρ σ) = (do pure (.bool (!(← Op.equal t (x.val ρ σ) (y.val ρ σ))))))) ∧
        ¬ (x.val ρ σ = .nilIface ∧ y.val ρ σ = .nilIface) ∧ ∀ c d, ¬ (x.val ρ σ = .agg c ∧ y.val ρ σ = .agg d) := by
      intro b hb hn
      unfold nilEq at hb
      cases h1 : tt t with
      | none => simp [h1] at hb
      | some ty =>
        simp only [h1, Option.bind_some] at hb
        split at hb <;> first
          | (cases hb; done)
          | (simp [isNil] at hn; done)
          | (refine ⟨⟨?_, ?_⟩, by simp [SV.val], by intro c d; simp [SV.val]⟩ <;> simp only [binOp, SV.val])
    cases op <;> (try (cases h; done)) <;> dsimp only at h
    case add =>
      split at h
      · rename_i a b
        cases hl : Nat.blt (a.length + b.length) 1000000 with
        | false => simp [hl] at h
        | true =>
          simp only [hl, cond_true] at h
          refine ⟨pCat_ok h ρ σ w hg (fun a' b' e1 e2 => by cases e1; cases e2; simpa [Nat.blt_eq] using hl) t, by simp [SV.val], by intro c d; simp [SV.val]⟩
      · rename_i hno
        refine ⟨pCat_ok h ρ σ w hg (fun a b e1 e2 => absurd e2 (by subst e1; exact hno a b rfl)) t, ?_, ?_⟩
        · unfold pCat at h; split at h <;> first | (cases h; done) | simp [SV.val]
        · intro c d; unfold pCat at h; split at h <;> first | (cases h; done) | simp [SV.val]
    case eql =>
      split at h
      · rename_i a b
        cases h1 : tt t with
        | none => simp [h1] at h
        | some ty =>
          simp only [h1, Option.bind_some] at h
          split at h
          · rename_i hul
            have hu := (ht t ty h1).ul
            rw [hul] at hu
            simp only [ULOk] at hu
            simp only [okp, Option.some.injEq, Prod.mk.injEq] at h
            obtain ⟨rfl, rfl⟩ := h
            refine ⟨?_, by simp [SV.val], by intro c d; simp [SV.val]⟩
            have : ∀ d, (Op.equalIn (d + 1) t (.bool (a.den ρ).asB) (.bool (b.den ρ).asB)).run P w = .ok ((a.den ρ).asB == (b.den ρ).asB) w := fun d => by
              simp only [Op.equalIn, Sem.run_bind, run_underlying hu, Result.andThen_ok, Sem.run_pure]
            have := this 9999
            simp only [binOp, SV.val, Sem.run_bind, mB2_den, O2.den, asB_b]
            unfold Op.equal Op.maxDepth
            rw [this]; rfl
          · cases h
      · cases hn : (isNil x && isNil y) with
        | true => simp [hn] at h
        | false =>
          simp only [hn, cond_false] at h
          cases hq : nilEq tt t x y with
          | none => simp [hq] at h
          | some b =>
            simp only [hq, Option.map_some, Option.some.injEq, Prod.mk.injEq] at h
            obtain ⟨rfl, rfl⟩ := h
            obtain ⟨n1, n2⟩ := nils b hq hn
            refine ⟨?_, n2⟩
            rw [n1.1]
            simp [nilEq_ok ht hq ρ σ w, SV.val, X.den]
    case neq =>
      split at h
      · rename_i a b
        cases h1 : tt t with
        | none => simp [h1] at h
        | some ty =>
          simp only [h1, Option.bind_some] at h
          split at h
          · rename_i hul
            have hu := (ht t ty h1).ul
            rw [hul] at hu
            simp only [ULOk] at hu
            simp only [okp, Option.some.injEq, Prod.mk.injEq] at h
            obtain ⟨rfl, rfl⟩ := h
            refine ⟨?_, by simp [SV.val], by intro c d; simp [SV.val]⟩
            have : ∀ d, (Op.equalIn (d + 1) t (.bool (a.den ρ).asB) (.bool (b.den ρ).asB)).run P w = .ok ((a.den ρ).asB == (b.den ρ).asB) w := fun d => by
              simp only [Op.equalIn, Sem.run_bind, run_underlying hu, Result.andThen_ok, Sem.run_pure]
            have := this 9999
            simp only [binOp, SV.val, Sem.run_bind, mNot_den, mB2_den, O2.den, asB_b]
            unfold Op.equal Op.maxDepth
            rw [this]; rfl
          · cases h
      · cases hn : (isNil x && isNil y) with
        | true => simp [hn] at h
        | false =>
          simp only [hn, cond_false] at h
          cases hq : nilEq tt t x y with
          | none => simp [hq] at h
          | some b =>
            simp only [hq, Option.map_some, Option.some.injEq, Prod.mk.injEq] at h
            obtain ⟨rfl, rfl⟩ := h
            obtain ⟨n1, n2⟩ := nils b hq hn
            refine ⟨?_, n2⟩
            rw [n1.2]
            simp [nilEq_ok ht hq ρ σ w, SV.val, X.den]

theorem pMinMax_ok {mx : Bool} {l : List SV} {s : SV} {g : List X} (h : pMinMax mx l = some (g, s)) (ρ : Env) (σ : Pl) (w : World) (ts : Array TypeId) (ty : TypeId) :
    ((if mx then Builtin.max_ else Builtin.min_) ts ty (l.map (SV.val ρ σ)).toArray).run P w = .ok (s.val ρ σ) w := by
  unfold pMinMax at h
  split at h
  · rename_i k a k' b
    cases hk : decide (k = k') with
    | false => simp [hk] at h
    | true =>
      simp only [hk, cond_true, okp, Option.some.injEq, Prod.mk.injEq] at h
      obtain ⟨rfl, rfl⟩ := h
      cases mx
      · simp only [Bool.false_eq_true, if_false, Builtin.min_, List.map_cons, List.map_nil, SV.val, List.foldlM_cons, List.foldlM_nil, Builtin.min2, cond_false, mI2_den, O2.den, asI_i]
        simp only [bind_pure, Sem.run_pure, ilt]
        cases hd : decide ((b.den ρ).asI < (a.den ρ).asI) <;> simp at hd <;> simp [hd]
        intro h'; omega
      · simp only [if_true, Builtin.max_, List.map_cons, List.map_nil, SV.val, List.foldlM_cons, List.foldlM_nil, Builtin.max2, cond_true, mI2_den, O2.den, asI_i]
        simp only [bind_pure, Sem.run_pure, ilt]
        cases hd : decide ((a.den ρ).asI < (b.den ρ).asI) <;> simp at hd <;> simp [hd]
        intro h'; omega
  · cases h
end Go.SE
end
