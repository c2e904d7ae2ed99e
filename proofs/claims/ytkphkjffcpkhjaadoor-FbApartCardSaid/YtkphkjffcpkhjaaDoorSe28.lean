import Derived.Test.YtkphkjffcpkhjaaDoorSe27
/-! What is to be shown where a premise is wrong in itself. -/
noncomputable section
set_option linter.unusedSimpArgs false
set_option linter.unusedVariables false
namespace Go.SE
def rho0 (F : Nat → List U → U) : Env := ⟨fun _ => default, F, fun _ _ => True⟩
def noVar : Nat → Bool := fun _ => false
/-- a premise without variables that is wrong. -/
def wrongF (F : Nat → List U → U) : Fact → Bool
  | .x e => bif e.vs noVar then !(e.den (rho0 F)).asB else false
  | _ => false
theorem wrongF_ok {F : Nat → List U → U} {f : Fact} (h : wrongF F f = true) {ρ : Env} (hf : ρ.f = F) : ¬ f.ok ρ := by
  cases f <;> simp only [wrongF, Bool.false_eq_true] at h
  rename_i e
  cases hv : e.vs noVar with
  | false => simp [hv] at h
  | true =>
    simp only [hv, cond_true, Bool.not_eq_true'] at h
    intro hk
    have := X.den_vs (p := noVar) (ρ := ρ) (ρ' := rho0 F) hf (fun i hi => by cases hi) hv
    simp only [Fact.ok, this, h] at hk
    cases hk
def wrongO (F : Nat → List U → U) (o : Obl) : Bool := o.fs.any (wrongF F)
theorem wrongO_ok {F : Nat → List U → U} {o : Obl} (h : wrongO F o = true) {w0 : W0} (hI : w0.i.f = F) : o.ok w0 := by
  intro ρ h1 _ h3
  simp only [wrongO, List.any_eq_true] at h
  obtain ⟨f, hm, hw⟩ := h
  exact absurd (h3 f hm) (wrongF_ok hw (h1.trans hI))
variable {P : Program} {I : Interp}
/-- a contract whose run leaves nothing to be shown but where a premise is wrong. -/
def chkOne (F : Nat → List U → U) (C : Ctx) (f i : Nat) (c : Ctr) (t : SV × H) : Bool :=
  match runOne C f i c t with
  | some ob => ob.all (wrongO F)
  | none => false
theorem CtrOk.chk {C : Ctx} (hC : CtxOk P I C) {f i : Nat} (hft : (C.ft i).isSome = true) {c : Ctr} {t : SV × H} {F : Nat → List U → U} (e : chkOne F C f i c t = true) (hI : I.f = F)
    (hts : t ∈ c.outs) : CtrOk P I i c := by
  unfold chkOne at e
  split at e
  · rename_i ob h
    refine CtrOk.one hC hft h hts fun w o ho => wrongO_ok (F := F) ?_ hI
    simp only [List.all_eq_true] at e
    exact e o ho
  · cases e
end Go.SE
end
