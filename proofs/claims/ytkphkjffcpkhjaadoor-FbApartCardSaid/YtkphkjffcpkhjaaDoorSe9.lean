import Derived.Test.YtkphkjffcpkhjaaDoorSe8
/-! The law of pureOp. -/
noncomputable section
set_option linter.unusedSimpArgs false
set_option linter.unusedVariables false
namespace Go.SE
variable {P : Program}

theorem bind1 {α β : Type} {x : Option α} {f : α → Option β} {b : β} (h : x.bind f = some b) : ∃ a, x = some a ∧ f a = some b := by
  cases x with
  | none => cases h
  | some a => exact ⟨a, rfl, h⟩

theorem pureOp_ok {tt : Nat → Option Ty} (ht : TabOk P tt) {o : Oper} {e : Operand → Option SV} {f : Operand → Value} {ρ : Env} {σ : Pl}
    (he : ∀ x s, e x = some s → f x = s.val ρ σ) {s : SV} {g : List X} (h : pureOp tt o.op e = some (g, s)) (w : World)
    (hg : ∀ q ∈ g, (q.den ρ).asB = true) : (execOp f o).run P w = .ok (.value (s.val ρ σ)) w := by
  obtain ⟨dst, op, ty, pos, after, guard⟩ := o
  cases op <;> simp only [pureOp, reduceCtorEq] at h
  case move x =>
    simp only [okp'] at h
    cases hx : e x with
    | none => simp [hx] at h
    | some v =>
      simp only [hx, Option.map_some, Option.some.injEq, Prod.mk.injEq] at h
      obtain ⟨rfl, rfl⟩ := h
      simp [execOp, he x v hx]
  case assign x =>
    simp only [okp'] at h
    cases hx : e x with
    | none => simp [hx] at h
    | some v =>
      simp only [hx, Option.map_some, Option.some.injEq, Prod.mk.injEq] at h
      obtain ⟨rfl, rfl⟩ := h
      simp [execOp, he x v hx]
  case pick c a b =>
    obtain ⟨vc, hc, h⟩ := bind1 h
    unfold pPick at h
    split at h
    · rename_i va hva
      simp only [okp, Option.some.injEq, Prod.mk.injEq] at h
      obtain ⟨rfl, rfl⟩ := h
      simp [execOp, he c _ hc, SV.val, X.den, asBool, he a va hva]
    · rename_i vb hvb
      simp only [okp, Option.some.injEq, Prod.mk.injEq] at h
      obtain ⟨rfl, rfl⟩ := h
      simp [execOp, he c _ hc, SV.val, X.den, asBool, he b vb hvb]
    · rename_i x xa xb _ _ ha hb
      simp only [okp, Option.some.injEq, Prod.mk.injEq] at h
      obtain ⟨rfl, rfl⟩ := h
      simp only [execOp, he c _ hc, SV.val, asBool, he a _ ha, he b _ hb, Sem.run_bind, Sem.run_pure, Result.andThen_ok, mIteB_den]
      cases (x.den ρ).asB <;> simp
    · cases h
  case build t ps =>
    obtain ⟨l, hl, h⟩ := bind1 h
    have h1 := evp_ok he hl
    have h2 := pBuild_ok ht h ρ σ w
    simp only [execOp, Sem.run_bind]
    have : (ps.map fun x => match x with | (i, x) => (i, f x)) = (l.map fun q => (q.1, q.2.val ρ σ)).toArray := by
      apply Array.ext'
      rw [Array.toList_map, List.toList_toArray]
      exact h1
    rw [this, h2]
    simp
  case nilCheck x =>
    obtain ⟨v, hv, h⟩ := bind1 h
    split at h
    · simp only [okp, Option.some.injEq, Prod.mk.injEq] at h
      obtain ⟨rfl, rfl⟩ := h
      simp [execOp, he x _ hv, SV.val]
    · simp only [okp, Option.some.injEq, Prod.mk.injEq] at h
      obtain ⟨rfl, rfl⟩ := h
      simp [execOp, he x _ hv, SV.val]
    · cases h
  case binOp op t x y yt =>
    obtain ⟨vx, hx, h⟩ := bind1 h
    obtain ⟨vy, hy, h⟩ := bind1 h
    split at h
    · obtain ⟨h1, h2⟩ := pAggEq_ok ht h ρ σ w x y
      simp only [execOp, Sem.run_bind, he x _ hx, he y _ hy, h2, Result.andThen_ok, h1, Sem.run_pure]
    · obtain ⟨h1, h2, h3⟩ := pBinAll_ok ht h ρ σ w hg
      simp only [execOp, Sem.run_bind, he x _ hx, he y _ hy, eqGuard_gen op t x y _ _ w h2 h3, Result.andThen_ok, h1, Sem.run_pure]
  case unOp op t x =>
    obtain ⟨vx, hx, h⟩ := bind1 h
    simp only [execOp, Sem.run_bind, he x _ hx, pUn_ok h ρ σ w, Result.andThen_ok, Sem.run_pure]
  case convert src dst x =>
    obtain ⟨vx, hx, h⟩ := bind1 h
    simp only [execOp, Sem.run_bind, he x _ hx, pConv_ok ht h ρ σ w, Result.andThen_ok, Sem.run_pure]
  case makeInterface t x =>
    obtain ⟨vx, hx, h⟩ := bind1 h
    obtain ⟨ty, hty, h⟩ := bind1 h
    have hu := (ht t ty hty).ul
    have hc : P.concrete t = true ∧ g = [] ∧ s = .iface t vx := by
      split at h <;> first
        | (cases h; done)
        | (simp only [okp, Option.some.injEq, Prod.mk.injEq] at h
           obtain ⟨rfl, rfl⟩ := h
           refine ⟨?_, rfl, rfl⟩
           cases hul : ty.ul <;> rw [hul] at hu <;> simp only [ULOk] at hu <;> first
            | (simp [Program.concrete, hu]; done)
            | (obtain ⟨_, hu, _⟩ := hu; simp [Program.concrete, hu]; done)
            | (obtain ⟨_, _, _, hu⟩ := hu; simp [Program.concrete, hu]; done)
            | simp_all)
    obtain ⟨hc, rfl, rfl⟩ := hc
    simp only [execOp, Sem.run_bind, he x _ hx, run_makeInterface w t _ hc, Result.andThen_ok, Sem.run_pure, SV.val]
  case makeFunc fn first captured =>
    cases fn <;> simp only [reduceCtorEq] at h
    rename_i fi
    split at h
    · rename_i hfirst
      cases hl : evs e captured.toList with
      | none => simp [hl] at h
      | some l =>
        simp only [hl, Option.map_some, Option.some.injEq, Prod.mk.injEq] at h
        obtain ⟨rfl, rfl⟩ := h
        have h1 := evs_ok he hl
        have hf0 : first = #[] := by apply Array.ext'; simpa using hfirst
        subst hf0
        have h2 : captured.map f = (l.map (SV.val ρ σ)).toArray := by
          apply Array.ext'
          rw [Array.toList_map, List.toList_toArray]
          exact h1
        simp [execOp, Instr.makeFunc, SV.val, vals_eq, h2]
    · cases h
  case fieldAddr t x fi =>
    obtain ⟨vx, hx, h⟩ := bind1 h
    simp only [execOp, Sem.run_bind, he x _ hx, pFieldAddr_ok ht h ρ σ w, Result.andThen_ok, Sem.run_pure]
  case field t x fi =>
    obtain ⟨vx, hx, h⟩ := bind1 h
    simp only [execOp, Sem.run_bind, he x _ hx, pField_ok ht h ρ σ w, Result.andThen_ok, Sem.run_pure]
  case indexAddr t x y =>
    obtain ⟨vx, hx, h⟩ := bind1 h
    obtain ⟨vy, hy, h⟩ := bind1 h
    simp only [execOp, Sem.run_bind, he x _ hx, he y _ hy, pIndexAddr_ok ht h ρ σ w hg, Result.andThen_ok, Sem.run_pure]
  case index t x y =>
    obtain ⟨vx, hx, h⟩ := bind1 h
    obtain ⟨vy, hy, h⟩ := bind1 h
    simp only [execOp, Sem.run_bind, he x _ hx, he y _ hy, pIndex_ok ht h ρ σ w hg, Result.andThen_ok, Sem.run_pure]
  case slice t x lo hi mx =>
    cases mx with
    | some _ => simp at h
    | none =>
      simp only at h
      obtain ⟨vx, hx, h⟩ := bind1 h
      cases lo with
      | none => cases hi with
        | none =>
          have := pSlice_ok ht h ρ σ w hg
          simp only [execOp, Sem.run_bind, he x _ hx, Option.map_none] at this ⊢
          simp only [this, Result.andThen_ok, Sem.run_pure]
        | some b =>
          simp only at h
          obtain ⟨vh, hh, h⟩ := bind1 h
          have := pSlice_ok ht h ρ σ w hg
          simp only [execOp, Sem.run_bind, he x _ hx, Option.map_none, Option.map_some, he b _ hh] at this ⊢
          simp only [this, Result.andThen_ok, Sem.run_pure]
      | some a => cases hi with
        | none =>
          simp only at h
          obtain ⟨vl, hl, h⟩ := bind1 h
          have := pSlice_ok ht h ρ σ w hg
          simp only [execOp, Sem.run_bind, he x _ hx, Option.map_none, Option.map_some, he a _ hl] at this ⊢
          simp only [this, Result.andThen_ok, Sem.run_pure]
        | some b =>
          simp only at h
          obtain ⟨vl, hl, h⟩ := bind1 h
          obtain ⟨vh, hh, h⟩ := bind1 h
          have := pSlice_ok ht h ρ σ w hg
          simp only [execOp, Sem.run_bind, he x _ hx, Option.map_none, Option.map_some, he a _ hl, he b _ hh] at this ⊢
          simp only [this, Result.andThen_ok, Sem.run_pure]
  case extract x i =>
    obtain ⟨vx, hx, h⟩ := bind1 h
    split at h
    · rename_i l
      simp only [okp'] at h
      cases hl : l[i]? with
      | none => simp [hl] at h
      | some v =>
        simp only [hl, Option.map_some, Option.some.injEq, Prod.mk.injEq] at h
        obtain ⟨rfl, rfl⟩ := h
        simp [execOp, Instr.extract, he x _ hx, SV.val, vals_eq, hl]
    · cases h
  case call c =>
    obtain ⟨callee, args, ats⟩ := c
    cases callee <;> simp only [reduceCtorEq] at h
    rename_i b
    cases b <;> simp only [reduceCtorEq] at h
    case len =>
      split at h
      · rename_i x t hargs hts
        obtain ⟨vx, hx, h⟩ := bind1 h
        have ha : args = #[x] := by apply Array.ext'; simpa using hargs
        have hat : ats[0]? = some t := by rw [← Array.getElem?_toList, hts]; rfl
        subst ha
        simp only [execOp, resolve, invoke, builtin, Sem.run_bind, Sem.run_pure, Result.andThen_ok, List.map_toArray, List.map_cons, List.map_nil, he x _ hx, pLen_ok ht h ρ σ w hg ats hat]
      · cases h
    case min =>
      obtain ⟨l, hl, h⟩ := bind1 h
      have h1 := evs_ok he hl
      have h2 : args.map f = (l.map (SV.val ρ σ)).toArray := by
        apply Array.ext'
        rw [Array.toList_map, List.toList_toArray]
        exact h1
      have h3 := pMinMax_ok (P := P) h ρ σ w ats ty
      simp only [Bool.false_eq_true, if_false] at h3
      simp only [execOp, resolve, invoke, builtin, Sem.run_bind, Sem.run_pure, Result.andThen_ok, h2, h3]
    case max =>
      obtain ⟨l, hl, h⟩ := bind1 h
      have h1 := evs_ok he hl
      have h2 : args.map f = (l.map (SV.val ρ σ)).toArray := by
        apply Array.ext'
        rw [Array.toList_map, List.toList_toArray]
        exact h1
      have h3 := pMinMax_ok (P := P) h ρ σ w ats ty
      simp only [if_true] at h3
      simp only [execOp, resolve, invoke, builtin, Sem.run_bind, Sem.run_pure, Result.andThen_ok, h2, h3]
end Go.SE
end
