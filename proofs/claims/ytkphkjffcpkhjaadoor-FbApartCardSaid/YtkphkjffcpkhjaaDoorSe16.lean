import Derived.Test.YtkphkjffcpkhjaaDoorSe15
/-! The symbolic executor: one function for all operations but calls, and its law. -/
noncomputable section
set_option linter.unusedSimpArgs false
set_option linter.unusedVariables false
namespace Go.SE
open Go.RowKit (Below)
variable {P : Program}

def memOp (tt : Nat → Option Ty) (h : H) (d : Option Nat) (o : Op) (e : Operand → Option SV) : MR :=
  match o with
  | .load t x => (e x).bind fun x => mLoad tt h t x
  | .store t x y => (e x).bind fun x => (e y).bind fun y => mStore tt h t x y
  | .alloc t => mAlloc tt h d t
  | .box t x => (e x).bind fun x => mBox h d t x
  | .makeMap t none => mMakeMap tt h d t
  | .buildSlice t n ps => (evp e ps.toList).bind fun l => mBuildSlice tt h d t n l
  | .makeSlice t x y => (e x).bind fun x => (e y).bind fun y => mMakeSlice tt h d t x y
  | .lookup t x y false => (e x).bind fun x => (e y).bind fun y => mLookup tt h t x y
  | .mapUpdate t x y z => (e x).bind fun x => (e y).bind fun y => (e z).bind fun z => mMapUpd tt h t x y z
  | .mapEntry t x y => (e x).bind fun x => (e y).bind fun y => mEntry tt h d t x y
  | .entryStore _ x y z => (e x).bind fun x => (e y).bind fun y => (e z).bind fun z => mEntryStore h x y z
  | o => (pureOp tt o e).map fun q => (q.1, some q.2, h)

theorem value_det {w0 : W0} {B : Nat} {o : Oper} {h : H} {g : List X} {s : SV} {ρ : Env} {σ : Pl} {a : Act} {w : World} {fr : List (Nat × SV)} {n : Nat}
    (hr : HRep w0 B ρ σ h w) (hf : FRep ρ σ h fr n a)
    (pl : ∀ ρ σ, HOk w0 B ρ σ h w → FrOk ρ σ fr n a → (∀ q ∈ g, (q.den ρ).asB = true) → (execOp a.eval o).run P w = .ok (.value (s.val ρ σ)) w) : OpOk P o h g (some s) h w0 B ρ σ a w :=
  .of_plain hr hf (H.le.refl h) (H.le.refl h) fun ρ σ h1 h2 h3 => ⟨_, _, pl ρ σ h1 h2 h3, h1, rfl⟩

theorem le_hp (h : H) (x : List (Nat × Blk)) : h.le { h with hp := x } ∧ H.le { h with hp := x } h := ⟨⟨fun _ h => h, fun _ h => h⟩, ⟨fun _ h => h, fun _ h => h⟩⟩
theorem mLoad_sv {tt : Nat → Option Ty} {h h' : H} {t : Nat} {x : SV} {sv : Option SV} {g : List X} (e : mLoad tt h t x = some (g, sv, h')) : ∃ s, sv = some s ∧ h' = h := by
  unfold mLoad at e
  split at e
  · rename_i b r wd j
    cases h1 : tt t with
    | none => simp [h1] at e
    | some ty =>
      cases h2 : fget h.hp b with
      | none => simp [h1, h2] at e
      | some k =>
        cases h3 : rdBlk ty k r wd j with
        | none => simp [h1, h2, h3] at e
        | some q => simp [h1, h2, h3] at e; exact ⟨q.2, e.2.1.symm, e.2.2.symm⟩
  · rename_i g0 r
    obtain ⟨ty, hty, e⟩ := bind1 e
    obtain ⟨n, hn, e⟩ := bind1 e
    split at e
    · cases hb : Nat.blt n 256 with
      | false => simp [hb] at e
      | true =>
        simp only [hb, cond_true, Option.some.injEq, Prod.mk.injEq] at e
        exact ⟨_, e.2.1.symm, e.2.2.symm⟩
    · cases e
  · cases e
theorem mStore_le {tt : Nat → Option Ty} {h h' : H} {t : Nat} {x v : SV} {sv : Option SV} {g : List X} (e : mStore tt h t x v = some (g, sv, h')) : h.le h' ∧ h'.le h := by
  unfold mStore at e
  split at e
  · rename_i b r wd j
    cases h1 : tt t with
    | none => simp [h1] at e
    | some ty =>
      cases h2 : fget h.hp b with
      | none => simp [h1, h2] at e
      | some k =>
        cases h3 : wrBlk ty v k r wd j with
        | none => simp [h1, h2, h3] at e
        | some q => simp [h1, h2, h3] at e; obtain ⟨_, _, rfl⟩ := e; exact le_hp _ _
  · cases e
theorem mMapUpd_le {tt : Nat → Option Ty} {h h' : H} {t : Nat} {x q v : SV} {sv : Option SV} {g : List X} (e : mMapUpd tt h t x q v = some (g, sv, h')) : h.le h' ∧ h'.le h := by
  unfold mMapUpd at e
  split at e
  case h_2 => cases e
  rename_i b q kv v
  cases h1 : mapTy tt t with
  | none => simp [h1] at e
  | some k =>
    simp only [h1, Option.bind_some] at e
    split at e
    · rename_i k' m st hb
      cases hc : (decide (k = k') && decide (k = kv)) with
      | false => simp [hc] at e
      | true =>
        simp only [hc, cond_true, Option.some.injEq, Prod.mk.injEq] at e
        obtain ⟨_, _, rfl⟩ := e
        exact le_hp _ _
    · cases e
theorem mEntryStore_le {h h' : H} {x q v : SV} {sv : Option SV} {g : List X} (e : mEntryStore h x q v = some (g, sv, h')) : h.le h' ∧ h'.le h := by
  unfold mEntryStore at e
  split at e
  case h_2 => cases e
  rename_i b i kv v
  split at e
  · rename_i k m st hb
    cases h1 : getSt i st with
    | none => simp [h1] at e
    | some q =>
      simp only [h1, Option.bind_some] at e
      cases hc : decide (k = kv) with
      | false => simp [hc] at e
      | true =>
        simp only [hc, cond_true, Option.some.injEq, Prod.mk.injEq] at e
        obtain ⟨_, _, rfl⟩ := e
        exact le_hp _ _
  · cases e

theorem memOp_ok {tt : Nat → Option Ty} (ht : TabOk P tt) {o : Oper} {h h' : H} {d : Option Nat} {fr : List (Nat × SV)} {n : Nat} {sv : Option SV} {g : List X}
    (e : memOp tt h d o.op (ev fr) = some (g, sv, h')) {w0 : W0} {B : Nat} {ρ : Env} {σ : Pl} {a : Act} {w : World} (hr : HRep w0 B ρ σ h w) (hf : FRep ρ σ h fr n a) :
    OpOk P o h g sv h' w0 B ρ σ a w := by
  have he : ∀ ρ₁ σ₁, Ext h ρ ρ₁ σ σ₁ → ∀ x s, ev fr x = some s → a.eval x = s.val ρ₁ σ₁ := fun ρ₁ σ₁ hx x s hs => ev_ok (hf _ _ hx) hs
  obtain ⟨dst, op, ty, pos, after, guard⟩ := o
  have pure_case : (pureOp tt op (ev fr)).map (fun q => (q.1, some q.2, h)) = some (g, sv, h') → OpOk P ⟨dst, op, ty, pos, after, guard⟩ h g sv h' w0 B ρ σ a w := by
    intro e
    cases hq : pureOp tt op (ev fr) with
    | none => simp [hq] at e
    | some q =>
      obtain ⟨g', s⟩ := q
      simp only [hq, Option.map_some, Option.some.injEq, Prod.mk.injEq] at e
      obtain ⟨rfl, rfl, rfl⟩ := e
      exact value_det hr hf fun ρ σ h1 h2 h3 => pureOp_ok ht (o := ⟨dst, op, ty, pos, after, guard⟩) (fun x s hs => ev_ok h2 hs) hq w h3
  cases op <;> simp only [memOp] at e <;> (try exact pure_case e)
  case load t x =>
    obtain ⟨vx, hx, e⟩ := bind1 e
    have hk := mLoad_sv e
    obtain ⟨s, rfl, rfl⟩ := hk
    refine value_det hr hf fun ρ σ h1 h2 h3 => ?_
    obtain ⟨s', hs', _, hrun⟩ := mLoad_ok ht e h1 h3
    cases hs'
    simp only [execOp, ev_ok h2 hx, Sem.run_bind, hrun, Result.andThen_ok, Sem.run_pure]
  case store t x y =>
    obtain ⟨vx, hx, e⟩ := bind1 e
    obtain ⟨vy, hy, e⟩ := bind1 e
    have hk := mStore_le e
    refine .of_plain hr hf hk.1 hk.2 fun ρ σ h1 h2 h3 => ?_
    obtain ⟨rfl, w', hrun, hok⟩ := mStore_ok ht e h1 h3
    refine ⟨.skip, w', ?_, hok, trivial⟩
    simp only [execOp, ev_ok h2 hx, ev_ok h2 hy, Sem.run_bind, hrun, Result.andThen_ok, Sem.run_pure]
  case alloc t => exact mAlloc_ok ht e hr rfl
  case box t x =>
    obtain ⟨vx, hx, e⟩ := bind1 e
    exact mBox_ok e hr (a.eval x) rfl fun ρ₁ σ₁ hx1 => he ρ₁ σ₁ hx1 x vx hx
  case makeMap t r =>
    cases r with
    | some _ => exact pure_case e
    | none => exact mMakeMap_ok e hr rfl
  case buildSlice t n ps =>
    obtain ⟨l, hl, e⟩ := bind1 e
    refine mBuildSlice_ok ht e hr (ps.toList.map fun q => (q.1, a.eval q.2)) ?_ fun ρ₁ σ₁ hx1 => evp_ok (he ρ₁ σ₁ hx1) hl
    simp only [execOp]
    congr 2
    apply Array.ext'
    simp
  case makeSlice t x y =>
    obtain ⟨vx, hx, e⟩ := bind1 e
    obtain ⟨vy, hy, e⟩ := bind1 e
    exact mMakeSlice_ok ht e hr (a.eval x) (a.eval y) rfl fun ρ₁ σ₁ hx1 => ⟨he ρ₁ σ₁ hx1 x vx hx, he ρ₁ σ₁ hx1 y vy hy⟩
  case lookup t x y ok =>
    cases ok with
    | true => exact pure_case e
    | false =>
      simp only at e
      obtain ⟨vx, hx, e⟩ := bind1 e
      obtain ⟨vy, hy, e⟩ := bind1 e
      have hk : ∃ s, sv = some s ∧ h' = h := by
        obtain ⟨s, h1, h2, _⟩ := mLookup_ok ht e hr.now
        exact ⟨s, h1, h2⟩
      obtain ⟨s, rfl, rfl⟩ := hk
      refine value_det hr hf fun ρ σ h1 h2 h3 => ?_
      obtain ⟨s', hs', _, hrun⟩ := mLookup_ok ht e h1
      cases hs'
      simp only [execOp, ev_ok h2 hx, ev_ok h2 hy, Sem.run_bind, hrun, Result.andThen_ok, Sem.run_pure]
  case mapUpdate t x y z =>
    obtain ⟨vx, hx, e⟩ := bind1 e
    obtain ⟨vy, hy, e⟩ := bind1 e
    obtain ⟨vz, hz, e⟩ := bind1 e
    have hk := mMapUpd_le e
    refine .of_plain hr hf hk.1 hk.2 fun ρ σ h1 h2 h3 => ?_
    obtain ⟨rfl, w', hrun, hok⟩ := mMapUpd_ok ht e h1
    refine ⟨.skip, w', ?_, hok, trivial⟩
    simp only [execOp, ev_ok h2 hx, ev_ok h2 hy, ev_ok h2 hz, Sem.run_bind, hrun, Result.andThen_ok, Sem.run_pure]
  case mapEntry t x y =>
    obtain ⟨vx, hx, e⟩ := bind1 e
    obtain ⟨vy, hy, e⟩ := bind1 e
    exact mEntry_ok ht e hr (a.eval x) (a.eval y) rfl fun ρ₁ σ₁ hx1 => ⟨he ρ₁ σ₁ hx1 x vx hx, he ρ₁ σ₁ hx1 y vy hy⟩
  case entryStore t x y z =>
    obtain ⟨vx, hx, e⟩ := bind1 e
    obtain ⟨vy, hy, e⟩ := bind1 e
    obtain ⟨vz, hz, e⟩ := bind1 e
    have hk := mEntryStore_le e
    refine .of_plain hr hf hk.1 hk.2 fun ρ σ h1 h2 h3 => ?_
    obtain ⟨rfl, w', hrun, hok⟩ := mEntryStore_ok (P := P) (t := t) e h1
    refine ⟨.skip, w', ?_, hok, trivial⟩
    simp only [execOp, ev_ok h2 hx, ev_ok h2 hy, ev_ok h2 hz, Sem.run_bind, hrun, Result.andThen_ok, Sem.run_pure]
end Go.SE
end
