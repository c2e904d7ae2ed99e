import Derived.Test.YtkphkjffcpkhjaaDoorSe4
/-! The symbolic executor: slicing, strings' bytes, composite values, the other operations without memory. -/
noncomputable section
set_option linter.unusedSimpArgs false
set_option linter.unusedVariables false
namespace Go.SE
variable {P : Program}

/-- 0 ≤ i ≤ n. -/
def inC (i n : X) : List X :=
  match i, n with
  | .n a, .n b => bif (ile 0 a && ile a b) then [] else [.t false]
  | i, n => [mB2 .le (.n 0) i, mB2 .le i n]
theorem inC_ok {ρ : Env} {i n : X} (h : ∀ e ∈ inC i n, (e.den ρ).asB = true) : 0 ≤ (i.den ρ).asI ∧ (i.den ρ).asI ≤ (n.den ρ).asI := by
  unfold inC at h
  split at h
  · rename_i a b
    cases hc : (ile 0 a && ile a b) with
    | true =>
      simp only [Bool.and_eq_true, ile_iff] at hc
      exact hc
    | false =>
      have := h (.t false) (by rw [hc]; exact List.mem_singleton_self _)
      simp [X.den] at this
  · have h1 := h (mB2 .le (.n 0) i) (by simp)
    have h2 := h (mB2 .le i n) (by simp)
    simp [mB2_den, O2.den, X.den] at h1 h2
    exact ⟨h1, h2⟩

/-- s[lo:hi]. -/
def pSlice (tt : Nat → Option Ty) (t : Nat) : SV → Option SV → Option SV → PR
  | .slice b j r w len cap, none, none => (tt t).bind fun ty => match ty.ul with
    | .slice e => (tt e).bind fun ety => bif Nat.beq ety.size w then okp (.slice b j r w len cap) else none
    | _ => none
  | .slice b j r w _ cap, none, some (.int _ hi) => (tt t).bind fun ty => match ty.ul with
    | .slice e => (tt e).bind fun ety => bif Nat.beq ety.size w then some (inC hi cap, .slice b j r w hi cap) else none
    | _ => none
  | .slice b j r w len cap, some (.int _ lo), none => (tt t).bind fun ty => match ty.ul with
    | .slice e => (tt e).bind fun ety => bif Nat.beq ety.size w then
      some (inC lo len ++ inC len cap ++ inB lo cap ++ addG r, .slice b j (addX r lo) w (mI2 .sub len lo) (mI2 .sub cap lo)) else none
    | _ => none
  | .slice b j r w _ cap, some (.int _ lo), some (.int _ hi) => (tt t).bind fun ty => match ty.ul with
    | .slice e => (tt e).bind fun ety => bif Nat.beq ety.size w then
      some (inC lo hi ++ inC hi cap ++ inB lo cap ++ addG r, .slice b j (addX r lo) w (mI2 .sub hi lo) (mI2 .sub cap lo)) else none
    | _ => none
  | .str (.s l), lo, hi => (tt t).bind fun ty => match ty.ul with
    | .str =>
      match (match lo with | none => some 0 | some (.int _ (.n a)) => some a | _ => none), (match hi with | none => some (l.length : Int) | some (.int _ (.n c)) => some c | _ => none) with
      | some a, some c => bif (ile 0 a && (ile a c && ile c l.length)) then okp (.str (.s ((l.drop a.toNat).take (c.toNat - a.toNat)))) else none
      | _, _ => none
    | _ => none
  | .ptr b (.n v) w j, none, none => (tt t).bind fun ty => match ty.ul with
    | .arr n e => (tt e).bind fun ety => okp (.slice b (v.toNat * w + j) (.n 0) ety.size (.n n) (.n n))
    | _ => none
  | _, _, _ => none

theorem slice_val (ρ : Env) (σ : Pl) (b j : Nat) (r : X) (w : Nat) (len cap : X) :
    (SV.slice b j r w len cap).val ρ σ = .slice (some (adr σ b (r.nat ρ * w + j))) (len.nat ρ) (cap.nat ρ) := rfl

theorem bytes_extract (l : List Nat) (a c : Nat) : (bytesOf l).extract a c = bytesOf ((l.drop a).take (c - a)) := by
  apply ByteArray.ext
  simp [bytesOf, ByteArray.data_extract]

theorem pSlice_ok {tt : Nat → Option Ty} (ht : TabOk P tt) {t : Nat} {x : SV} {lo hi : Option SV} {s : SV} {g : List X} (h : pSlice tt t x lo hi = some (g, s)) (ρ : Env) (σ : Pl) (w : World)
    (hg : ∀ e ∈ g, (e.den ρ).asB = true) : (Instr.sliceAt t (x.val ρ σ) (lo.map (SV.val ρ σ)) (hi.map (SV.val ρ σ)) none).run P w = .ok (s.val ρ σ) w := by
  unfold pSlice at h
  split at h
  case h_1 b j r wd len cap =>
    cases h1 : tt t with
    | none => simp [h1] at h
    | some ty =>
      simp only [h1, Option.bind_some] at h
      split at h
      · rename_i e hul
        have hu := (ht t ty h1).ul
        rw [hul] at hu
        simp only [ULOk] at hu
        cases h2 : tt e with
        | none => simp [h2] at h
        | some ety =>
          simp only [h2, Option.bind_some] at h
          cases h3 : Nat.beq ety.size wd with
          | false => simp [h3] at h
          | true =>
            simp only [h3, cond_true, okp, Option.some.injEq, Prod.mk.injEq] at h
            obtain ⟨rfl, rfl⟩ := h
            simp [Instr.sliceAt, Instr.slice, run_underlying hu, SV.val, Instr.sliceBounds, run_size_ok (ht e ety h2), adr_add]
      · cases h
  case h_2 b j r wd len cap k hi =>
    cases h1 : tt t with
    | none => simp [h1] at h
    | some ty =>
      simp only [h1, Option.bind_some] at h
      split at h
      · rename_i e hul
        have hu := (ht t ty h1).ul
        rw [hul] at hu
        simp only [ULOk] at hu
        cases h2 : tt e with
        | none => simp [h2] at h
        | some ety =>
          simp only [h2, Option.bind_some] at h
          cases h3 : Nat.beq ety.size wd with
          | false => simp [h3] at h
          | true =>
            simp only [h3, cond_true, Option.some.injEq, Prod.mk.injEq] at h
            obtain ⟨rfl, rfl⟩ := h
            have hb := inC_ok hg
            have hc : (hi.den ρ).asI ≤ ((cap.den ρ).asI.toNat : Int) := by omega
            simp [Instr.sliceAt, Instr.slice, run_underlying hu, SV.val, Instr.sliceBounds, Instr.sliceBound, asIntOf, run_size_ok (ht e ety h2), adr_add, X.nat, hb.1]
            intro hh; omega
      · cases h
  case h_3 b j r wd len cap k lo =>
    cases h1 : tt t with
    | none => simp [h1] at h
    | some ty =>
      simp only [h1, Option.bind_some] at h
      split at h
      · rename_i e hul
        have hu := (ht t ty h1).ul
        rw [hul] at hu
        simp only [ULOk] at hu
        cases h2 : tt e with
        | none => simp [h2] at h
        | some ety =>
          simp only [h2, Option.bind_some] at h
          cases h3 : Nat.beq ety.size wd with
          | false => simp [h3] at h
          | true =>
            simp only [h3, cond_true, Option.some.injEq, Prod.mk.injEq] at h
            obtain ⟨rfl, rfl⟩ := h
            obtain ⟨hg, g4⟩ := mem_append_ok hg
            obtain ⟨hg, g3⟩ := mem_append_ok hg
            obtain ⟨g1, g2⟩ := mem_append_ok hg
            have b1 := inC_ok g1
            have b2 := inC_ok g2
            have b3 := inB_ok g3
            have b4 := addG_ok g4
            have hsz := beq_true.1 h3
            have c1 : (lo.den ρ).asI ≤ ((len.den ρ).asI.toNat : Int) := by omega
            have hne : (cap.den ρ).asI.toNat ≠ (lo.den ρ).asI.toNat := by omega
            have e1 : ((len.den ρ).asI.toNat - (lo.den ρ).asI.toNat) = ((mI2 .sub len lo).den ρ).asI.toNat := by simp [mI2_den, O2.den]; omega
            have e2 : ((cap.den ρ).asI.toNat - (lo.den ρ).asI.toNat) = ((mI2 .sub cap lo).den ρ).asI.toNat := by simp [mI2_den, O2.den]; omega
            have e3 : ((addX r lo).den ρ).asI.toNat = (r.den ρ).asI.toNat + (lo.den ρ).asI.toNat := by rw [addX_den, Int.toNat_add b4 b1.1]
            simp only [Instr.sliceAt, Instr.slice, run_underlying hu, SV.val, Instr.sliceBounds, Instr.sliceBound, asIntOf, run_size_ok (ht e ety h2), adr_add, X.nat, b1.1, c1,
              Sem.run_bind, Sem.run_pure, Result.andThen_ok, Option.map_some, Option.map_none, and_self, if_true, hne, if_false, e1, e2, e3, hsz]
            congr 4
            rw [Nat.add_mul]; omega
      · cases h
  case h_4 b j r wd len cap k lo k' hi =>
    cases h1 : tt t with
    | none => simp [h1] at h
    | some ty =>
      simp only [h1, Option.bind_some] at h
      split at h
      · rename_i e hul
        have hu := (ht t ty h1).ul
        rw [hul] at hu
        simp only [ULOk] at hu
        cases h2 : tt e with
        | none => simp [h2] at h
        | some ety =>
          simp only [h2, Option.bind_some] at h
          cases h3 : Nat.beq ety.size wd with
          | false => simp [h3] at h
          | true =>
            simp only [h3, cond_true, Option.some.injEq, Prod.mk.injEq] at h
            obtain ⟨rfl, rfl⟩ := h
            obtain ⟨hg, g4⟩ := mem_append_ok hg
            obtain ⟨hg, g3⟩ := mem_append_ok hg
            obtain ⟨g1, g2⟩ := mem_append_ok hg
            have b1 := inC_ok g1
            have b2 := inC_ok g2
            have b3 := inB_ok g3
            have b4 := addG_ok g4
            have hsz := beq_true.1 h3
            have c0 : (hi.den ρ).asI ≤ ((cap.den ρ).asI.toNat : Int) := by omega
            have c1 : (lo.den ρ).asI ≤ ((hi.den ρ).asI.toNat : Int) := by omega
            have hne : (cap.den ρ).asI.toNat ≠ (lo.den ρ).asI.toNat := by omega
            have e1 : ((hi.den ρ).asI.toNat - (lo.den ρ).asI.toNat) = ((mI2 .sub hi lo).den ρ).asI.toNat := by simp [mI2_den, O2.den]; omega
            have e2 : ((cap.den ρ).asI.toNat - (lo.den ρ).asI.toNat) = ((mI2 .sub cap lo).den ρ).asI.toNat := by simp [mI2_den, O2.den]; omega
            have e3 : ((addX r lo).den ρ).asI.toNat = (r.den ρ).asI.toNat + (lo.den ρ).asI.toNat := by rw [addX_den, Int.toNat_add b4 b1.1]
            simp only [Instr.sliceAt, Instr.slice, run_underlying hu, SV.val, Instr.sliceBounds, Instr.sliceBound, asIntOf, run_size_ok (ht e ety h2), adr_add, X.nat, b1.1, b2.1, c0, c1,
              Sem.run_bind, Sem.run_pure, Result.andThen_ok, Option.map_some, and_self, if_true, hne, if_false, e1, e2, e3, hsz]
            congr 4
            rw [Nat.add_mul]; omega
      · cases h
  case h_5 l =>
    cases h1 : tt t with
    | none => simp [h1] at h
    | some ty =>
      simp only [h1, Option.bind_some] at h
      split at h
      · rename_i hul
        have hu := (ht t ty h1).ul
        rw [hul] at hu
        simp only [ULOk] at hu
        split at h
        · rename_i a c ha hc
          cases hb : (ile 0 a && (ile a c && ile c l.length)) with
          | false => simp [hb] at h
          | true =>
            simp only [hb, cond_true, okp, Option.some.injEq, Prod.mk.injEq] at h
            obtain ⟨rfl, rfl⟩ := h
            simp only [Bool.and_eq_true, ile_iff] at hb
            have hl : (bytesOf l).size = l.length := by simp [bytesOf, ByteArray.size]
            have hb2 : (if 0 ≤ c ∧ c ≤ ((bytesOf l).size : Int) then c.toNat else 0) = c.toNat := by rw [if_pos (by rw [hl]; omega)]
            have lo' : lo = none ∧ a = 0 ∨ ∃ k, lo = some (.int k (.n a)) := by
              split at ha
              · simp at ha; exact .inl ⟨rfl, ha.symm⟩
              · simp at ha; subst ha; exact .inr ⟨_, rfl⟩
              · cases ha
            have hi' : hi = none ∧ c = l.length ∨ ∃ k, hi = some (.int k (.n c)) := by
              split at hc
              · simp at hc; exact .inl ⟨rfl, hc.symm⟩
              · simp at hc; subst hc; exact .inr ⟨_, rfl⟩
              · cases hc
            have q3 : 0 ≤ c := by omega
            rcases lo' with ⟨rfl, rfl⟩ | ⟨k, rfl⟩ <;> rcases hi' with ⟨rfl, rfl⟩ | ⟨k', rfl⟩ <;>
              simp [Instr.sliceAt, Instr.slice, run_underlying hu, SV.val, Instr.sliceBounds, Instr.sliceBound, asIntOf, X.den, bytes_extract, hl, hb.1, hb.2.1, hb.2.2, q3]
            all_goals first | omega | skip
        · cases h
      · cases h
  case h_6 b v wd j =>
    cases h1 : tt t with
    | none => simp [h1] at h
    | some ty =>
      simp only [h1, Option.bind_some] at h
      split at h
      · rename_i n e hul
        have hu := (ht t ty h1).ul
        rw [hul] at hu
        simp only [ULOk] at hu
        cases h2 : tt e with
        | none => simp [h2] at h
        | some ety =>
          simp only [h2, Option.bind_some, okp, Option.some.injEq, Prod.mk.injEq] at h
          obtain ⟨rfl, rfl⟩ := h
          simp [Instr.sliceAt, Instr.sureAddr, run_underlying hu, SV.val, Instr.sliceBounds, run_size_ok (ht e ety h2), adr_add, X.nat, X.den]
      · cases h
  case h_7 => cases h
end Go.SE
end
