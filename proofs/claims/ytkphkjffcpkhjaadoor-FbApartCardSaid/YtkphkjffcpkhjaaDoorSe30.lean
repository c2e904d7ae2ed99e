import Derived.Test.YtkphkjffcpkhjaaDoorSe3
import Derived.ChangeKeysEq
/-! The symbolic executor: sameness of expressions; arrays of numbers compared. -/
noncomputable section
set_option linter.unusedSimpArgs false
set_option linter.unusedVariables false
namespace Go.SE
def xeq : X → X → Bool
  | .n a, .n b => decide (a = b)
  | .t a, .t b => a == b
  | .s a, .s b => beqL a b
  | .v a, .v b => Nat.beq a b
  | .nil, .nil => true
  | .u o a, .u p b => decide (o = p) && xeq a b
  | .o o a c, .o p b d => decide (o = p) && (xeq a b && xeq c d)
  | .c o a c e, .c p b d f => decide (o = p) && (xeq a b && (xeq c d && xeq e f))
  | _, _ => false
theorem xeq_eq : ∀ {a b : X}, xeq a b = true → a = b
  | .n a, .n b, h => by simp [xeq] at h; rw [h]
  | .t a, .t b, h => by simp [xeq] at h; rw [h]
  | .s a, .s b, h => by simp only [xeq] at h; rw [(beqL_iff a b).1 h]
  | .v a, .v b, h => by simp only [xeq] at h; rw [beq_true.1 h]
  | .nil, .nil, h => rfl
  | .u o a, .u p b, h => by
    simp only [xeq, Bool.and_eq_true, decide_eq_true_eq] at h
    rw [h.1, xeq_eq h.2]
  | .o o a c, .o p b d, h => by
    simp only [xeq, Bool.and_eq_true, decide_eq_true_eq] at h
    rw [h.1, xeq_eq h.2.1, xeq_eq h.2.2]
  | .c o a c e, .c p b d f, h => by
    simp only [xeq, Bool.and_eq_true, decide_eq_true_eq] at h
    rw [h.1, xeq_eq h.2.1, xeq_eq h.2.2.1, xeq_eq h.2.2.2]
  | .n _, .t _, h | .n _, .s _, h | .n _, .v _, h | .n _, .nil, h | .n _, .u _ _, h | .n _, .o _ _ _, h | .n _, .c _ _ _ _, h
  | .t _, .n _, h | .t _, .s _, h | .t _, .v _, h | .t _, .nil, h | .t _, .u _ _, h | .t _, .o _ _ _, h | .t _, .c _ _ _ _, h
  | .s _, .n _, h | .s _, .t _, h | .s _, .v _, h | .s _, .nil, h | .s _, .u _ _, h | .s _, .o _ _ _, h | .s _, .c _ _ _ _, h
  | .v _, .n _, h | .v _, .t _, h | .v _, .s _, h | .v _, .nil, h | .v _, .u _ _, h | .v _, .o _ _ _, h | .v _, .c _ _ _ _, h
  | .nil, .n _, h | .nil, .t _, h | .nil, .s _, h | .nil, .v _, h | .nil, .u _ _, h | .nil, .o _ _ _, h | .nil, .c _ _ _ _, h
  | .u _ _, .n _, h | .u _ _, .t _, h | .u _ _, .s _, h | .u _ _, .v _, h | .u _ _, .nil, h | .u _ _, .o _ _ _, h | .u _ _, .c _ _ _ _, h
  | .o _ _ _, .n _, h | .o _ _ _, .t _, h | .o _ _ _, .s _, h | .o _ _ _, .v _, h | .o _ _ _, .nil, h | .o _ _ _, .u _ _, h | .o _ _ _, .c _ _ _ _, h
  | .c _ _ _ _, .n _, h | .c _ _ _ _, .t _, h | .c _ _ _ _, .s _, h | .c _ _ _ _, .v _, h | .c _ _ _ _, .nil, h | .c _ _ _ _, .u _ _, h | .c _ _ _ _, .o _ _ _, h => by cases h

variable {P : Program}
/-- two lists of numbers of a kind: whether they are the same. -/
def eqCells (k : IntKind) : List SV → List SV → Option X
  | [], [] => some (.t true)
  | .int k1 a :: l, .int k2 b :: m => bif decide (k1 = k) && decide (k2 = k) then (eqCells k l m).map fun r => bif xeq a b then r else mB2 .and (mB2 .eq a b) r else none
  | _, _ => none
def pAggEq (tt : Nat → Option Ty) (op : BinOp) (t : Nat) (l m : List SV) : Option (List X × SV) :=
  (tt t).bind fun ty => match ty.ul with
  | .arr n e => (tt e).bind fun ety => match ety.ul with
    | .int k => bif Nat.beq l.length n && Nat.beq ety.size 1 then (eqCells k l m).bind fun r => match op with
      | .eql => some ([], .bool r)
      | .neq => some ([], .bool (mNot r))
      | _ => none
      else none
    | _ => none
  | _ => none
theorem eqItems_int (w : World) {e : TypeId} {k : IntKind} (hu : P.underlying e = some (.int k)) (d : Nat) (xs ys : Array Value) (za zb : Nat → Int) : ∀ is : List Nat,
    (∀ i ∈ is, xs[i]? = some (.int k (za i)) ∧ ys[i]? = some (.int k (zb i))) → (Op.eqItems (d + 1) e 1 xs ys is).run P w = .ok (is.all fun i => za i == zb i) w
  | [], _ => rfl
  | i :: is, h => by
    obtain ⟨h1, h2⟩ := h i List.mem_cons_self
    have hp : P.plainKey e = true := by simp [Program.plainKey, hu]
    have ih := eqItems_int w hu d xs ys za zb is fun j hj => h j (List.mem_cons_of_mem _ hj)
    simp only [Op.eqItems, Nat.mul_one, Sem.run_bind, run_part_plain w hp h1, run_part_plain w hp h2, Result.andThen_ok, Op.equalIn, run_underlying hu, if_true, Sem.run_pure, List.all_cons]
    cases hq : za i == zb i <;> simp [ih]
def intAt (ρ : Env) (l : List SV) (i : Nat) : Int := match l[i]? with
  | some (.int _ x) => (x.den ρ).asI
  | _ => 0
theorem eqCells_ok {k : IntKind} : ∀ {l m : List SV} {r : X}, eqCells k l m = some r → ∀ (ρ : Env) (σ : Pl), l.length = m.length ∧ (r.den ρ).asB = ((List.range l.length).all fun i => intAt ρ l i == intAt ρ m i) ∧
    ∀ i, i < l.length → (l.map (SV.val ρ σ))[i]? = some (.int k (intAt ρ l i)) ∧ (m.map (SV.val ρ σ))[i]? = some (.int k (intAt ρ m i))
  | [], [], r, h, ρ, σ => by
    simp only [eqCells, Option.some.injEq] at h
    subst h
    simp [X.den]
  | a :: l, b :: m, r, h, ρ, σ => by
    cases a <;> cases b <;> simp only [eqCells, reduceCtorEq] at h
    rename_i k1 a k2 b
    cases hc : (decide (k1 = k) && decide (k2 = k)) with
    | false => simp [hc] at h
    | true =>
      simp only [hc, cond_true] at h
      simp only [Bool.and_eq_true, decide_eq_true_eq] at hc
      obtain ⟨hk1, hk2⟩ := hc
      subst hk1
      subst hk2
      rw [Option.map_eq_some_iff] at h
      obtain ⟨q, hq, h⟩ := h
      obtain ⟨a1, a2, a3⟩ := eqCells_ok hq ρ σ
      refine ⟨by simp [a1], ?_, fun i hi => ?_⟩
      · rw [List.length_cons, List.range_succ_eq_map, List.all_cons, List.all_map]
        have e0 : ((List.range l.length).all ((fun i => intAt ρ (SV.int k2 a :: l) i == intAt ρ (SV.int k2 b :: m) i) ∘ Nat.succ)) = (q.den ρ).asB := by
          rw [a2]; rfl
        rw [e0]
        cases hx : xeq a b with
        | true =>
          rw [hx] at h
          subst h
          rw [xeq_eq hx]
          simp [intAt]
        | false =>
          rw [hx] at h
          subst h
          simp only [cond_false, mB2_den, O2.den, asB_b, intAt, List.getElem?_cons_zero]
          congr 1
      · cases i with
        | zero => simp [intAt, SV.val]
        | succ i => simpa [intAt] using a3 i (by simpa using hi)
  | [], _ :: _, r, h, ρ, σ => by cases h
  | a :: _, [], r, h, ρ, σ => by cases a <;> cases h
theorem pAggEq_ok {tt : Nat → Option Ty} (ht : TabOk P tt) {op : BinOp} {t : Nat} {l m : List SV} {g : List X} {s : SV} (h : pAggEq tt op t l m = some (g, s)) (ρ : Env) (σ : Pl) (w : World) (p q : Operand) :
    (binOp op t ((SV.agg l).val ρ σ) ((SV.agg m).val ρ σ)).run P w = .ok (s.val ρ σ) w ∧ (eqGuard op t p q ((SV.agg l).val ρ σ) ((SV.agg m).val ρ σ)).run P w = .ok () w := by
  unfold pAggEq at h
  rw [Option.bind_eq_some_iff] at h
  obtain ⟨ty, hty, h⟩ := h
  have hu := (ht t ty hty).ul
  split at h
  case h_2 => cases h
  rename_i n e hul
  rw [hul] at hu
  simp only [ULOk] at hu
  rw [Option.bind_eq_some_iff] at h
  obtain ⟨ety, hety, h⟩ := h
  have hue := (ht e ety hety).ul
  obtain ⟨i, hi, hsize, _⟩ := (ht e ety hety).info
  split at h
  case h_2 => cases h
  rename_i k hk
  rw [hk] at hue
  simp only [ULOk] at hue
  cases hc : (Nat.beq l.length n && Nat.beq ety.size 1) with
  | false => simp [hc] at h
  | true =>
    simp only [hc, cond_true] at h
    simp only [Bool.and_eq_true, beq_true] at hc
    obtain ⟨hn, h1⟩ := hc
    rw [Option.bind_eq_some_iff] at h
    obtain ⟨r, hr, h⟩ := h
    obtain ⟨a1, a2, a3⟩ := eqCells_ok hr ρ σ
    have hco : P.cellsOf e = 1 := by simp [Program.cellsOf, hi, hsize, h1]
    have hg : P.eqGuardType P.depth t = false := by
      have : P.depth = (2 * (P.types.size + Made.depth) + 1) + 1 := rfl
      rw [this]
      simp only [Program.eqGuardType, hu]
      simp only [Program.eqGuardType, hue]
    have he : (Op.equalIn 10000 t ((SV.agg l).val ρ σ) ((SV.agg m).val ρ σ)).run P w = .ok (r.den ρ).asB w := by
      simp only [SV.val, vals_eq]
      rw [show (10000 : Nat) = (9998 + 1) + 1 from rfl, run_equalIn_array w (9998 + 1) _ _ hu hi, hco, eqItems_int w hue 9998 _ _ (intAt ρ l) (intAt ρ m) _ (fun j hj => by
        rw [List.mem_range] at hj
        simpa using a3 j (by omega)), a2, hn]
    refine ⟨?_, by simp only [SV.val]; exact run_eqGuard_agg w op t p q _ _ hg⟩
    have hop : (op = .eql ∧ s = .bool r) ∨ (op = .neq ∧ s = .bool (mNot r)) := by
      split at h <;> first | (cases h; done) | (cases h; simp)
    rcases hop with ⟨rfl, rfl⟩ | ⟨rfl, rfl⟩
    · simp only [SV.val, binOp, Sem.run_bind] at he ⊢
      unfold Op.equal Op.maxDepth
      rw [he]; rfl
    · simp only [SV.val, binOp, Sem.run_bind, mNot_den] at he ⊢
      unfold Op.equal Op.maxDepth
      rw [he]; rfl
end Go.SE
end
