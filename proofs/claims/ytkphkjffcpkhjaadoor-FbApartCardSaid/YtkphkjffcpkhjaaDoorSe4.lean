import Derived.Test.YtkphkjffcpkhjaaDoorSe3
/-! The symbolic executor: parts, fields, indices, bounds, composite values. -/
noncomputable section
set_option linter.unusedSimpArgs false
set_option linter.unusedVariables false
namespace Go.SE
variable {P : Program}

def UL.agg : UL → Bool
  | .arr _ _ | .struct _ => true
  | _ => false
def UL.known : UL → Bool
  | .other => false
  | _ => true

theorem run_size_ok {t : Nat} {ty : Ty} (h : TyOk P t ty) (w : World) : (sizeOf t).run P w = .ok ty.size w := by
  obtain ⟨i, hi, hs, _⟩ := h.info
  simp [sizeOf, typeInfo, hi, hs]
theorem run_bytes_ok {t : Nat} {ty : Ty} (h : TyOk P t ty) (w : World) : ∃ i, (typeInfo t).run P w = .ok i w ∧ i.bytes = ty.bytes ∧ i.size = ty.size := by
  obtain ⟨i, hi, hs, hb, _⟩ := h.info
  exact ⟨i, by simp [typeInfo, hi], hb, hs⟩
theorem run_agg_ok {t : Nat} {ty : Ty} (h : TyOk P t ty) (hk : ty.ul.known = true) (w : World) : (isAgg t).run P w = .ok ty.ul.agg w := by
  have := h.ul
  cases hu : ty.ul <;> rw [hu] at this hk <;> simp only [ULOk] at this <;> simp [UL.known] at hk
  case struct fs => obtain ⟨F, hF, _⟩ := this; simp [isAgg, run_underlying hF, UL.agg]
  case func => obtain ⟨ps, rs, v, hF⟩ := this; simp [isAgg, run_underlying hF, UL.agg]
  case iface => obtain ⟨ms, hF⟩ := this; simp [isAgg, run_underlying hF, UL.agg]
  all_goals simp [isAgg, run_underlying this, UL.agg]
theorem run_zero_ok {t : Nat} {ty : Ty} {z : SV} (h : TyOk P t ty) (hz : ty.zero = some z) (ρ : Env) (σ : Pl) (w : World) : (zeroValue t).run P w = .ok (z.val ρ σ) w := by
  obtain ⟨i, hi, _, _, h3⟩ := h.info
  simp [zeroValue, typeInfo, hi, h3 z hz ρ σ]

theorem adr_add (σ : Pl) (b j n : Nat) : (adr σ b j).add n = adr σ b (j + n) := by
  unfold Addr.add adr
  split
  · simp_all
  · simp [Nat.add_assoc]

/-- a part of a struct's or an array's cells. -/
def pPart (ty : Ty) (l : List SV) (off : Nat) : Option SV :=
  bif ty.ul.known then (bif ty.ul.agg then some (.agg ((l.drop off).take ty.size)) else l[off]?) else none
theorem extract_toArray {α : Type} (l : List α) (i n : Nat) : l.toArray.extract i (i + n) = ((l.drop i).take n).toArray := by
  apply Array.ext'
  simp [Nat.add_sub_cancel_left, List.drop_take]
theorem pPart_ok {t : Nat} {ty : Ty} (h : TyOk P t ty) {l : List SV} {off : Nat} {s : SV} (hs : pPart ty l off = some s) (ρ : Env) (σ : Pl) (w : World) :
    (part t (l.map (SV.val ρ σ)).toArray off).run P w = .ok (s.val ρ σ) w := by
  unfold pPart at hs
  cases hk : ty.ul.known with
  | false => simp [hk] at hs
  | true =>
    simp only [hk, cond_true] at hs
    unfold part
    simp only [Sem.run_bind, run_agg_ok h hk, Result.andThen_ok]
    cases ha : ty.ul.agg with
    | true =>
      simp only [ha, cond_true, Option.some.injEq] at hs
      subst hs
      simp only [if_true, Sem.run_bind, run_size_ok h, Result.andThen_ok, Sem.run_pure, SV.val, vals_eq, extract_toArray, List.map_take, List.map_drop]
    | false =>
      simp only [ha, cond_false] at hs
      simp [hs]

def pField (tt : Nat → Option Ty) (t : Nat) (f : Nat) : SV → PR
  | .agg l => (tt t).bind fun ty => match ty.ul with
    | .struct fs => (fs[f]?).bind fun q => (tt q.1).bind fun fty => (pPart fty l q.2.1).map fun s => ([], s)
    | _ => none
  | _ => none
theorem struct_field {t : Nat} {fs : List (Nat × Nat × Nat)} (h : ULOk P t (.struct fs)) {f : Nat} {q : Nat × Nat × Nat} (hq : fs[f]? = some q) :
    ∃ F fd, P.underlying t = some (.struct F) ∧ F[f]? = some fd ∧ fd.type = q.1 ∧ fd.offset = q.2.1 ∧ ∃ i, P.info? q.1 = some i ∧ i.size = q.2.2 := by
  obtain ⟨F, hF, hm, hs⟩ := h
  have hq' : (F.toList.map (fun f => (f.type, f.offset)))[f]? = some (q.1, q.2.1) := by rw [hm]; simp [hq]
  rw [List.getElem?_map] at hq'
  cases hf : F.toList[f]? with
  | none => simp [hf] at hq'
  | some fd =>
    simp [hf] at hq'
    exact ⟨F, fd, hF, by simpa using hf, hq'.1, hq'.2, hs q (List.mem_of_getElem? hq)⟩
theorem pField_ok {tt : Nat → Option Ty} (ht : TabOk P tt) {t f : Nat} {x s : SV} {g : List X} (h : pField tt t f x = some (g, s)) (ρ : Env) (σ : Pl) (w : World) :
    (Instr.field t (x.val ρ σ) f).run P w = .ok (s.val ρ σ) w := by
  unfold pField at h
  split at h
  · rename_i l
    cases h1 : tt t with
    | none => simp [h1] at h
    | some ty =>
      simp only [h1, Option.bind_some] at h
      split at h
      · rename_i fs hul
        cases h2 : fs[f]? with
        | none => simp [h2] at h
        | some q =>
          simp only [h2, Option.bind_some] at h
          cases h3 : tt q.1 with
          | none => simp [h3] at h
          | some fty =>
            simp only [h3, Option.bind_some] at h
            cases h4 : pPart fty l q.2.1 with
            | none => simp [h4] at h
            | some s' =>
              simp only [h4, Option.map_some, Option.some.injEq, Prod.mk.injEq] at h
              obtain ⟨rfl, rfl⟩ := h
              have hu := (ht t ty h1).ul
              rw [hul] at hu
              obtain ⟨F, fd, hF, hfd, e1, e2, _⟩ := struct_field hu h2
              have := pPart_ok (ht q.1 fty h3) h4 ρ σ w
              simp only [Instr.field, Sem.run_bind, run_underlying hF, Result.andThen_ok, hfd, asAgg, SV.val, vals_eq, Sem.run_pure, e1, e2, this]
      · cases h
  · cases h

def pFieldAddr (tt : Nat → Option Ty) (t : Nat) (f : Nat) : SV → PR
  | .ptr b r w j => (tt t).bind fun ty => match ty.ul with
    | .struct fs => (fs[f]?).bind fun q => bif Nat.beq q.2.2 0 then none else some ([], .ptr b r w (j + q.2.1))
    | _ => none
  | _ => none
theorem pFieldAddr_ok {tt : Nat → Option Ty} (ht : TabOk P tt) {t f : Nat} {x s : SV} {g : List X} (h : pFieldAddr tt t f x = some (g, s)) (ρ : Env) (σ : Pl) (w : World) :
    (Instr.fieldAt t (x.val ρ σ) f).run P w = .ok (s.val ρ σ) w := by
  unfold pFieldAddr at h
  split at h
  · rename_i b r wd j
    cases h1 : tt t with
    | none => simp [h1] at h
    | some ty =>
      simp only [h1, Option.bind_some] at h
      split at h
      · rename_i fs hul
        cases h2 : fs[f]? with
        | none => simp [h2] at h
        | some q =>
          simp only [h2, Option.bind_some] at h
          cases h3 : Nat.beq q.2.2 0 with
          | true => simp [h3] at h
          | false =>
            simp only [h3, cond_false, Option.some.injEq, Prod.mk.injEq] at h
            obtain ⟨rfl, rfl⟩ := h
            have hu := (ht t ty h1).ul
            rw [hul] at hu
            obtain ⟨F, fd, hF, hfd, e1, e2, i, hi, hs⟩ := struct_field hu h2
            have hne : i.size ≠ 0 := by rw [hs]; exact beq_false.1 h3
            simp [Instr.fieldAt, run_underlying hF, hfd, SV.val, Instr.sureAddr, fieldPlace, sizeOf, typeInfo, e1, hi, hne, e2, adr_add, Nat.add_assoc]
      · cases h
  · cases h

/-- the bounds of an index: 0 ≤ i < n. -/
def inB (i n : X) : List X :=
  match i, n with
  | .n a, .n b => bif (ile 0 a && ilt a b) then [] else [.t false]
  | i, n => [mB2 .le (.n 0) i, mB2 .lt i n]
theorem inB_ok {ρ : Env} {i n : X} (h : ∀ e ∈ inB i n, (e.den ρ).asB = true) : 0 ≤ (i.den ρ).asI ∧ (i.den ρ).asI < (n.den ρ).asI := by
  unfold inB at h
  split at h
  · rename_i a b
    cases hc : (ile 0 a && ilt a b) with
    | true =>
      simp only [Bool.and_eq_true, ile_iff, ilt_iff] at hc
      exact hc
    | false =>
      have := h (.t false) (by rw [hc]; exact List.mem_singleton_self _)
      simp [X.den] at this
  · have h1 := h (mB2 .le (.n 0) i) (by simp)
    have h2 := h (mB2 .lt i n) (by simp)
    simp [mB2_den, O2.den, X.den] at h1 h2
    exact ⟨h1, h2⟩

def addX : X → X → X
  | .n 0, i => i
  | r, i => mI2 .add r i
/-- what must hold for the sum to be that of the whole numbers. -/
def addG : X → List X
  | .n v => bif ile 0 v then [] else [.t false]
  | r => [mB2 .le (.n 0) r]
theorem addX_den {ρ : Env} {r i : X} : ((addX r i).den ρ).asI = (r.den ρ).asI + (i.den ρ).asI := by
  unfold addX
  split
  · simp [X.den]
  · simp [mI2_den, O2.den]
theorem addG_ok {ρ : Env} {r : X} (h : ∀ e ∈ addG r, (e.den ρ).asB = true) : 0 ≤ (r.den ρ).asI := by
  unfold addG at h
  split at h
  · rename_i v
    cases hc : ile 0 v with
    | true => exact ile_iff.1 hc
    | false =>
      have := h (.t false) (by rw [hc]; exact List.mem_singleton_self _)
      simp [X.den] at this
  · have h1 := h _ (List.mem_singleton_self _)
    simp [mB2_den, O2.den, X.den] at h1
    exact h1

def pIndexAddr (tt : Nat → Option Ty) (t : Nat) : SV → SV → PR
  | .ptr b r w j, .int _ i => (tt t).bind fun ty => match ty.ul with
    | .arr n e => (tt e).bind fun ety =>
      match i with
      | .n v => some (inB i (.n n), .ptr b r w (j + v.toNat * ety.size))
      | i => match r with
        | .n v => some (inB i (.n n), .ptr b i ety.size (v.toNat * w + j))
        | _ => none
    | _ => none
  | .slice b j r w len _, .int _ i => (tt t).bind fun ty => match ty.ul with
    | .slice e => (tt e).bind fun ety => bif Nat.beq ety.size w then some (inB i len ++ addG r, .ptr b (addX r i) w j) else none
    | _ => none
  | .gp g (.n 0), .int _ i => (tt t).bind fun ty => match ty.ul with
    | .arr n e => (tt e).bind fun ety => bif Nat.beq ety.size 1 then some (inB i (.n n), .gp g i) else none
    | _ => none
  | _, _ => none
theorem mem_append_ok {ρ : Env} {a b : List X} (h : ∀ e ∈ a ++ b, (X.den ρ e).asB = true) : (∀ e ∈ a, (X.den ρ e).asB = true) ∧ ∀ e ∈ b, (X.den ρ e).asB = true :=
  ⟨fun e he => h e (List.mem_append_left _ he), fun e he => h e (List.mem_append_right _ he)⟩
theorem pIndexAddr_ok {tt : Nat → Option Ty} (ht : TabOk P tt) {t : Nat} {x y s : SV} {g : List X} (h : pIndexAddr tt t x y = some (g, s)) (ρ : Env) (σ : Pl) (w : World)
    (hg : ∀ e ∈ g, (e.den ρ).asB = true) : (Instr.indexAt t (x.val ρ σ) (y.val ρ σ)).run P w = .ok (s.val ρ σ) w := by
  unfold pIndexAddr at h
  split at h
  · rename_i b r wd j k i
    cases h1 : tt t with
    | none => simp [h1] at h
    | some ty =>
      simp only [h1, Option.bind_some] at h
      split at h
      · rename_i n e hul
        have hu := (ht t ty h1).ul
        rw [hul] at hu
        simp only [ULOk] at hu
        cases h2 : tt e with
        | none => simp [h2] at h
        | some ety =>
          simp only [h2, Option.bind_some] at h
          split at h
          · rename_i v
            simp only [Option.some.injEq, Prod.mk.injEq] at h
            obtain ⟨rfl, rfl⟩ := h
            have hb := inB_ok hg
            simp only [X.den, asI_i] at hb
            simp only [Instr.indexAt, SV.val, asIntOf, Sem.run_bind, Sem.run_pure, Result.andThen_ok, run_underlying hu, Instr.sureAddr, X.den, asI_i, hb, and_self, if_true, run_size_ok (ht e ety h2), adr_add]
            simp [Nat.add_assoc]
          · split at h
            · rename_i v
              simp only [Option.some.injEq, Prod.mk.injEq] at h
              obtain ⟨rfl, rfl⟩ := h
              have hb := inB_ok hg
              simp only [X.den, asI_i] at hb
              simp only [Instr.indexAt, SV.val, asIntOf, Sem.run_bind, Sem.run_pure, Result.andThen_ok, run_underlying hu, Instr.sureAddr, hb, and_self, if_true, run_size_ok (ht e ety h2), adr_add]
              simp [X.nat, X.den, Nat.add_comm]
            · cases h
      · cases h
  · rename_i b j r wd len cap k i
    cases h1 : tt t with
    | none => simp [h1] at h
    | some ty =>
      simp only [h1, Option.bind_some] at h
      split at h
      · rename_i e hul
        have hu := (ht t ty h1).ul
        rw [hul] at hu
        simp only [ULOk] at hu
        cases h2 : tt e with
        | none => simp [h2] at h
        | some ety =>
          simp only [h2, Option.bind_some] at h
          cases h3 : Nat.beq ety.size wd with
          | false => simp [h3] at h
          | true =>
            simp only [h3, cond_true, Option.some.injEq, Prod.mk.injEq] at h
            obtain ⟨rfl, rfl⟩ := h
            obtain ⟨hg1, hg2⟩ := mem_append_ok hg
            have hb := inB_ok hg1
            have hr := addG_ok hg2
            have hl : 0 ≤ (len.den ρ).asI := by omega
            have hsz := beq_true.1 h3
            have hlt : (i.den ρ).asI < ((len.den ρ).asI.toNat : Int) := by rw [Int.toNat_of_nonneg hl]; exact hb.2
            have hnat : (addX r i).nat ρ = r.nat ρ + (i.den ρ).asI.toNat := by
              unfold X.nat; rw [addX_den, Int.toNat_add hr hb.1]
            simp only [Instr.indexAt, SV.val, asIntOf, Sem.run_bind, Sem.run_pure, Result.andThen_ok, run_underlying hu, X.nat, hb.1, hlt, and_self, if_true, run_size_ok (ht e ety h2), adr_add, hsz]
            have : (addX r i).nat ρ * wd + j = (r.nat ρ) * wd + j + (i.den ρ).asI.toNat * wd := by rw [hnat, Nat.add_mul]; omega
            simp only [X.nat] at this
            rw [this]
      · cases h
  · rename_i g0 k i
    cases h1 : tt t with
    | none => simp [h1] at h
    | some ty =>
      simp only [h1, Option.bind_some] at h
      split at h
      · rename_i n e hul
        have hu := (ht t ty h1).ul
        rw [hul] at hu
        simp only [ULOk] at hu
        cases h2 : tt e with
        | none => simp [h2] at h
        | some ety =>
          simp only [h2, Option.bind_some] at h
          cases h3 : Nat.beq ety.size 1 with
          | false => simp [h3] at h
          | true =>
            have h4 := Nat.eq_of_beq_eq_true h3
            simp only [h3, cond_true, Option.some.injEq, Prod.mk.injEq] at h
            obtain ⟨rfl, rfl⟩ := h
            have hb := inB_ok hg
            simp only [X.den, asI_i] at hb
            simp only [Instr.indexAt, SV.val, asIntOf, Sem.run_bind, Sem.run_pure, Result.andThen_ok, run_underlying hu, Instr.sureAddr, hb, and_self, if_true, run_size_ok (ht e ety h2)]
            simp [X.nat, X.den, h4, Addr.add]
            omega
      · cases h
  · cases h
end Go.SE
end
