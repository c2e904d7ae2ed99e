import Derived.Test.YtkphkjffcpkhjaaDoorSe18
/-! The symbolic executor: the tables of a program. -/
noncomputable section
set_option linter.unusedSimpArgs false
set_option linter.unusedVariables false
namespace Go.SE

inductive Tr (α : Type) where
  | e | n (l : Tr α) (v : Option α) (r : Tr α)
def Tr.get {α : Type} : Tr α → Nat → Option α
  | .e, _ => none
  | .n l v r, k => bif Nat.beq k 0 then v else bif Nat.beq (k % 2) 1 then l.get (k / 2) else r.get (k / 2 - 1)
def Tr.all {α : Type} (f : Nat → α → Bool) : Tr α → (Nat → Nat) → Bool
  | .e, _ => true
  | .n l v r, g => (match v with | none => true | some a => f (g 0) a) && (l.all f (fun k => g (2 * k + 1)) && r.all f (fun k => g (2 * k + 2)))
theorem Tr.all_ok {α : Type} {f : Nat → α → Bool} : ∀ {t : Tr α} {g : Nat → Nat}, t.all f g = true → ∀ k v, t.get k = some v → f (g k) v = true
  | .e, g, _, k, v, h => by cases h
  | .n l w r, g, ha, k, v, h => by
    simp only [Tr.all, Bool.and_eq_true] at ha
    simp only [Tr.get] at h
    cases h0 : Nat.beq k 0 with
    | true =>
      have := beq_true.1 h0
      subst this
      simp only [h0, cond_true] at h
      subst h
      exact ha.1
    | false =>
      have hk := beq_false.1 h0
      simp only [h0, cond_false] at h
      cases h1 : Nat.beq (k % 2) 1 with
      | true =>
        have h2 := beq_true.1 h1
        simp only [h1, cond_true] at h
        have := Tr.all_ok ha.2.1 (k / 2) v h
        have e : 2 * (k / 2) + 1 = k := by omega
        simpa only [e] using this
      | false =>
        have h2 := beq_false.1 h1
        simp only [h1, cond_false] at h
        have := Tr.all_ok ha.2.2 (k / 2 - 1) v h
        have e : 2 * (k / 2 - 1) + 2 = k := by omega
        simpa only [e] using this
def Tr.upd {α : Type} (x : α) : Nat → Tr α → Nat → Tr α
  | 0, t, _ => t
  | f + 1, .e, k => if k = 0 then .n .e (some x) .e else if k % 2 = 1 then .n (upd x f .e (k / 2)) none .e else .n .e none (upd x f .e (k / 2 - 1))
  | f + 1, .n l v r, k => if k = 0 then .n l (some x) r else if k % 2 = 1 then .n (upd x f l (k / 2)) v r else .n l v (upd x f r (k / 2 - 1))

/-- Does a value stand for a symbolic one, whatever the environment? -/
def valIs : SV → Value → Bool
  | .bool (.t a), .bool b => a == b
  | .int k (.n a), .int l b => decide (k = l) && decide (a = b)
  | .str (.s a), .string b => beqL a (toB b)
  | .nilp, .pointer none => true
  | .nils, .slice none 0 0 => true
  | .nilmap, .map none => true
  | .nilfn, .nilFunc => true
  | .niface, .nilIface => true
  | .agg l, .agg v => all l v.toList
  | _, _ => false
where
  all : List SV → List Value → Bool
    | [], [] => true
    | a :: x, b :: y => valIs a b && all x y
    | _, _ => false
mutual
theorem valIs_ok (ρ : Env) (σ : Pl) : ∀ (s : SV) (v : Value), valIs s v = true → s.val ρ σ = v
  | .bool x, v, h => by
    cases x <;> cases v <;> simp only [valIs, reduceCtorEq, Bool.false_eq_true, beq_iff_eq] at h
    subst h; rfl
  | .int k x, v, h => by
    cases x <;> cases v <;> simp only [valIs, reduceCtorEq, Bool.false_eq_true, Bool.and_eq_true, decide_eq_true_eq] at h
    obtain ⟨rfl, rfl⟩ := h; rfl
  | .str x, v, h => by
    cases x <;> cases v <;> simp only [valIs, reduceCtorEq, Bool.false_eq_true] at h
    have := (beqL_iff _ _).1 h
    subst this
    simp [SV.val, X.den, bytesOf_toB]
  | .nilp, v, h => by
    unfold valIs at h
    split at h <;> simp_all [SV.val]
  | .nils, v, h => by
    unfold valIs at h
    split at h <;> simp_all [SV.val]
  | .nilmap, v, h => by
    unfold valIs at h
    split at h <;> simp_all [SV.val]
  | .nilfn, v, h => by
    unfold valIs at h
    split at h <;> simp_all [SV.val]
  | .niface, v, h => by
    unfold valIs at h
    split at h <;> simp_all [SV.val]
  | .agg l, v, h => by
    cases v <;> simp only [valIs, reduceCtorEq, Bool.false_eq_true] at h
    rename_i c
    have := valIs_all ρ σ l c.toList h
    simp only [SV.val, vals_eq, this]
  | .ptr .., v, h | .slice .., v, h | .map _, v, h | .fn .., v, h | .iface .., v, h | .tuple _, v, h => by cases v <;> simp [valIs] at h
theorem valIs_all (ρ : Env) (σ : Pl) : ∀ (l : List SV) (vs : List Value), valIs.all l vs = true → l.map (SV.val ρ σ) = vs
  | [], vs, h => by cases vs <;> simp only [valIs.all, reduceCtorEq, Bool.false_eq_true] at h; rfl
  | a :: l, vs, h => by
    cases vs <;> simp only [valIs.all, reduceCtorEq, Bool.false_eq_true, Bool.and_eq_true] at h
    simp [valIs_ok ρ σ _ _ h.1, valIs_all ρ σ _ _ h.2]
end

def ulIs (P : Program) (t : Nat) : UL → Bool
  | .bool => match P.underlying t with | some .bool => true | _ => false
  | .int k => match P.underlying t with | some (.int l) => decide (k = l) | _ => false
  | .str => match P.underlying t with | some .string => true | _ => false
  | .ptr e => match P.underlying t with | some (.pointer f) => Nat.beq e f | _ => false
  | .slice e => match P.underlying t with | some (.slice f) => Nat.beq e f | _ => false
  | .arr n e => match P.underlying t with | some (.array m f) => Nat.beq n m && Nat.beq e f | _ => false
  | .map k e => match P.underlying t with | some (.map l f) => Nat.beq k l && Nat.beq e f | _ => false
  | .struct fs => match P.underlying t with
    | some (.struct F) => fsIs P fs F.toList
    | _ => false
  | .func => match P.underlying t with | some (.func ..) => true | _ => false
  | .iface => match P.underlying t with | some (.interface _) => true | _ => false
  | .other => true
where
  fsIs (P : Program) : List (Nat × Nat × Nat) → List Field → Bool
    | [], [] => true
    | q :: l, f :: m => Nat.beq q.1 f.type && (Nat.beq q.2.1 f.offset && ((match P.info? q.1 with | some i => Nat.beq i.size q.2.2 | none => false) && fsIs P l m))
    | _, _ => false
theorem fsIs_ok {P : Program} : ∀ {fs : List (Nat × Nat × Nat)} {F : List Field}, ulIs.fsIs P fs F = true →
    F.map (fun f => (f.type, f.offset)) = fs.map (fun q => (q.1, q.2.1)) ∧ ∀ q ∈ fs, ∃ i, P.info? q.1 = some i ∧ i.size = q.2.2
  | [], [], _ => ⟨rfl, by simp⟩
  | [], _ :: _, h => by cases h
  | _ :: _, [], h => by cases h
  | q :: l, f :: m, h => by
    simp only [ulIs.fsIs, Bool.and_eq_true, beq_true] at h
    obtain ⟨h1, h2, h3, h4⟩ := h
    obtain ⟨e1, e2⟩ := fsIs_ok h4
    refine ⟨by simp [h1, h2, e1], fun p hp => ?_⟩
    simp only [List.mem_cons] at hp
    rcases hp with rfl | hp
    · split at h3
      · rename_i i hi; exact ⟨i, hi, beq_true.1 h3⟩
      · cases h3
    · exact e2 p hp
theorem ulIs_ok {P : Program} {t : Nat} {u : UL} (h : ulIs P t u = true) : ULOk P t u := by
  cases u <;> simp only [ulIs] at h <;> simp only [ULOk]
  case struct fs =>
    split at h
    · rename_i F hF
      obtain ⟨e1, e2⟩ := fsIs_ok h
      exact ⟨F, hF, e1, e2⟩
    · cases h
  case func => split at h <;> first | (rename_i ps rs v hF; exact ⟨ps, rs, v, hF⟩) | (cases h; done)
  case iface => split at h <;> first | (rename_i ms hF; exact ⟨ms, hF⟩) | (cases h; done)
  all_goals
    split at h <;> first
      | (cases h; done)
      | (rename_i hF; simp only [Bool.and_eq_true, beq_true, decide_eq_true_eq] at h; first | (rw [hF]; simp [h]; done) | (rw [hF, h]; done) | (rw [hF]; done))
def tyIs (P : Program) (t : Nat) (ty : Ty) : Bool :=
  match P.info? t with
  | some i => Nat.beq i.size ty.size && (Nat.beq i.bytes ty.bytes && ((match ty.zero with | none => true | some z => match i.zero with | some v => valIs z v | none => false) && ulIs P t ty.ul))
  | none => false
theorem tyIs_ok {P : Program} {t : Nat} {ty : Ty} (h : tyIs P t ty = true) : TyOk P t ty := by
  unfold tyIs at h
  split at h
  · rename_i i hi
    simp only [Bool.and_eq_true, beq_true] at h
    obtain ⟨h1, h2, h3, h4⟩ := h
    refine ⟨⟨i, hi, h1, h2, fun z hz ρ σ => ?_⟩, ulIs_ok h4⟩
    rw [hz] at h3
    simp only at h3
    split at h3
    · rename_i v hv
      rw [hv, valIs_ok ρ σ z v h3]
    · cases h3
  · cases h
theorem tabOk {P : Program} {tr : Tr Ty} (h : tr.all (tyIs P) id = true) : TabOk P tr.get := fun t ty ht => tyIs_ok (Tr.all_ok h t ty ht)
end Go.SE
namespace Go.SE
def Tr.allP {α : Type} (p : Nat → α → Prop) : Tr α → (Nat → Nat) → Prop
  | .e, _ => True
  | .n l v r, g => (match v with | none => True | some a => p (g 0) a) ∧ l.allP p (fun k => g (2 * k + 1)) ∧ r.allP p (fun k => g (2 * k + 2))
theorem Tr.allP_ok {α : Type} {p : Nat → α → Prop} : ∀ {t : Tr α} {g : Nat → Nat}, t.allP p g → ∀ k v, t.get k = some v → p (g k) v
  | .e, g, _, k, v, h => by cases h
  | .n l w r, g, ha, k, v, h => by
    simp only [Tr.allP] at ha
    simp only [Tr.get] at h
    cases h0 : Nat.beq k 0 with
    | true =>
      have := beq_true.1 h0
      subst this
      simp only [h0, cond_true] at h
      subst h
      exact ha.1
    | false =>
      have hk := beq_false.1 h0
      simp only [h0, cond_false] at h
      cases h1 : Nat.beq (k % 2) 1 with
      | true =>
        have h2 := beq_true.1 h1
        simp only [h1, cond_true] at h
        have := Tr.allP_ok ha.2.1 (k / 2) v h
        have e : 2 * (k / 2) + 1 = k := by omega
        simpa only [e] using this
      | false =>
        have h2 := beq_false.1 h1
        simp only [h1, cond_false] at h
        have := Tr.allP_ok ha.2.2 (k / 2 - 1) v h
        have e : 2 * (k / 2 - 1) + 2 = k := by omega
        simpa only [e] using this
/-- A function of the table is the program's. -/
def FOk (P : Program) (f : Nat) (fn : Func) : Prop := P.funcs[f]? = some fn ∧ fn.body.isSome = true ∧ (fn.name == "runtime.NumGoroutine") = false

/-! Methods. -/
def mtIs (P : Program) (t : Nat) (nm : String) (f : Nat) : Bool :=
  match P.info? t with
  | some i => match i.methods.find? (·.name == nm) with
    | some m => match m.path.toList, m.func, P.underlying t with
      | [], some (g, b), some (.pointer _) => Nat.beq g f && b
      | [], some (g, b), some _ => Nat.beq g f && !b
      | _, _, _ => false
    | none => false
  | none => false
def mtGet : List (Nat × String × Nat) → Nat → String → Option Nat
  | [], _, _ => none
  | (t', n', f) :: r, t, nm => bif Nat.beq t' t && (n' == nm) then some f else mtGet r t nm
theorem mtIs_ok {P : Program} {t : Nat} {nm : String} {f : Nat} (h : mtIs P t nm f = true) (n : Nat) (v : Value) (w : World) : (method (n + 1) t v nm).run P w = .ok (f, v) w := by
  unfold mtIs at h
  split at h
  case h_2 => cases h
  rename_i i hi
  split at h
  case h_2 => cases h
  rename_i m hm
  have key : ∀ b, m.path.toList = [] → m.func = some (f, b) → (∃ u, P.underlying t = some u ∧ ((∃ e, u = .pointer e) ↔ b = true)) → (method (n + 1) t v nm).run P w = .ok (f, v) w := by
    intro b hp hf ⟨u, hu, hb⟩
    unfold method
    simp only [Sem.run_bind, typeInfo, run_program, Result.andThen_ok, hi, Sem.run_pure, hm, hp, follow, hf]
    unfold receiverAt
    simp only [Sem.run_bind, run_underlying hu, Result.andThen_ok]
    cases b with
    | true =>
      obtain ⟨e, rfl⟩ := hb.2 rfl
      simp [Place.get]
    | false =>
      have hne : ∀ e, u ≠ .pointer e := fun e he => by simpa using hb.1 ⟨e, he⟩
      cases u <;> first | (exact absurd rfl (hne _)) | simp [Place.get]
  split at h
  · rename_i g b e hp hf hu
    simp only [Bool.and_eq_true, beq_true] at h
    obtain ⟨rfl, rfl⟩ := h
    exact key true hp hf ⟨_, hu, by simp⟩
  · rename_i g b u hn hp hf hu
    simp only [Bool.and_eq_true, beq_true, Bool.not_eq_true'] at h
    obtain ⟨rfl, rfl⟩ := h
    refine key false hp hf ⟨_, hu, ⟨fun ⟨e, he⟩ => ?_, fun h => by cases h⟩⟩
    subst he
    exact (hn e rfl).elim
  · cases h
theorem mt_ok {P : Program} {tbl : List (Nat × String × Nat)} (h : tbl.all (fun q => mtIs P q.1 q.2.1 q.2.2) = true) : ∀ t m f, mtGet tbl t m = some f → ∀ v w, (method (P.types.size + Made.depth) t v m).run P w = .ok (f, v) w := by
  induction tbl with
  | nil => intro t m f e; cases e
  | cons q r ih =>
    obtain ⟨t', n', f'⟩ := q
    simp only [List.all_cons, Bool.and_eq_true] at h
    intro t m f e v w
    simp only [mtGet] at e
    cases hc : (Nat.beq t' t && (n' == m)) with
    | true =>
      simp only [hc, cond_true, Option.some.injEq] at e
      subst e
      simp only [Bool.and_eq_true, beq_true, beq_iff_eq] at hc
      obtain ⟨rfl, rfl⟩ := hc
      have hpos : 0 < Made.depth := by decide
      obtain ⟨k, hk⟩ : ∃ k, P.types.size + Made.depth = k + 1 := ⟨P.types.size + Made.depth - 1, by omega⟩
      rw [hk]
      exact mtIs_ok h.1 k v w
    | false =>
      simp only [hc, cond_false] at e
      exact ih h.2 t m f e v w
end Go.SE
end
