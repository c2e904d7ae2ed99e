import Derived.Test.YtkphkjffcpkhjaaDoorSe24
/-! Obligations with fewer premises. -/
noncomputable section
set_option linter.unusedSimpArgs false
set_option linter.unusedVariables false
namespace Go.SE
/-- premises that say no more than how large a new slice may be. -/
def dull : Fact → Bool
  | .x (.o .le (.n _) (.v _)) => true
  | .x (.o .le (.v _) (.n 9223372036854775807)) => true
  | .x (.u (.f 999) _) => true
  | _ => false
def slim (ob : List Obl) : List Obl := ob.map fun o => ⟨filB (fun f => !dull f) o.fs, o.goal⟩
theorem slim_ok {w0 : W0} {ob : List Obl} (h : ∀ o ∈ slim ob, o.ok w0) : ∀ o ∈ ob, o.ok w0 := by
  intro o ho ρ h1 h2 h3
  refine h _ (List.mem_map_of_mem ho) ρ h1 h2 fun f hf => h3 f ?_
  simp only [filB_eq, List.mem_filter] at hf
  exact hf.1
variable {P : Program} {I : Interp}
def runS (C : Ctx) (f i : Nat) (c : Ctr) (ts : List (SV × H)) : Option (List Obl) := (runK C f i c ts).map slim
theorem CtrOk.run3 {C : Ctx} (hC : CtxOk P I C) {f i : Nat} (hft : (C.ft i).isSome = true) {c : Ctr} {ob : List Obl} {ts : List (SV × H)} (e : runS C f i c ts = some ob)
    (hts : ∀ t ∈ ts, t ∈ c.outs) (hob : ∀ w, ∀ o ∈ ob, o.ok ⟨w, I⟩) : CtrOk P I i c := by
  unfold runS at e
  rw [Option.map_eq_some_iff] at e
  obtain ⟨ob', h1, rfl⟩ := e
  exact CtrOk.run2 hC hft h1 hts fun w => slim_ok (hob w)
/-- all outcomes brought to one template. -/
def runOne (C : Ctx) (f i : Nat) (c : Ctr) (t : SV × H) : Option (List Obl) :=
  (execCall C f i c.args c.h).bind fun q => (mergeK c.h q.2 (q.2.map fun _ => t)).map fun ob => slim (q.1 ++ ob)
theorem CtrOk.one {C : Ctx} (hC : CtxOk P I C) {f i : Nat} (hft : (C.ft i).isSome = true) {c : Ctr} {ob : List Obl} {t : SV × H} (e : runOne C f i c t = some ob)
    (hts : t ∈ c.outs) (hob : ∀ w, ∀ o ∈ ob, o.ok ⟨w, I⟩) : CtrOk P I i c := by
  unfold runOne at e
  obtain ⟨q, h1, e⟩ := bind1 e
  rw [Option.map_eq_some_iff] at e
  obtain ⟨ob', h2, rfl⟩ := e
  exact CtrOk.run hC hft (ob := q.1) (rs := q.2) h1 h2 (fun t ht => by simp only [List.mem_map] at ht; obtain ⟨_, _, rfl⟩ := ht; exact hts) fun w => slim_ok (hob w)
/-- a contract out of another: at narrower arguments, the outcome said in other words. -/
def reOne (c c' : Ctr) (t : SV × H) : Option (List Obl) :=
  (useK c c'.args c'.h).bind fun q => (mergeK c'.h q.2 (q.2.map fun _ => t)).map fun ob => slim (q.1 ++ ob)
theorem CtrOk.re {i : Nat} {c c' : Ctr} (hc : CtrOk P I i c) {t : SV × H} {ob : List Obl} (e : reOne c c' t = some ob) (ht : t ∈ c'.outs) (hob : ∀ w, ∀ o ∈ ob, o.ok ⟨w, I⟩) : CtrOk P I i c' := by
  unfold reOne at e
  obtain ⟨q, h1, e⟩ := bind1 e
  rw [Option.map_eq_some_iff] at e
  obtain ⟨ob', h2, rfl⟩ := e
  have hu : CallOk P I i c'.args c'.h q.1 q.2 := use_ok hc h1
  exact .of (merge_ok hu h2 (fun t ht => by simp only [List.mem_map] at ht; obtain ⟨_, _, rfl⟩ := ht; assumption)) fun w => slim_ok (hob w)
/-- contracts whose runs leave nothing to be shown. -/
def allRun (C : Ctx) (f i : Nat) (l : List Ctr) : Bool := allB (fun c => match runOne C f i c (c.outs.headD (.nilp, c.h)) with | some [] => !c.outs.isEmpty | _ => false) l
theorem allRun_ok {C : Ctx} (hC : CtxOk P I C) {f i : Nat} (hft : (C.ft i).isSome = true) {l : List Ctr} (e : allRun C f i l = true) : ∀ c ∈ l, CtrOk P I i c := by
  intro c hc
  unfold allRun at e
  rw [allB_iff] at e
  have := e c hc
  split at this
  · rename_i h
    refine CtrOk.one hC hft h ?_ (by simp)
    cases ho : c.outs with
    | nil => simp [ho] at this
    | cons a r => exact List.mem_cons_self
  · cases this
end Go.SE
end
