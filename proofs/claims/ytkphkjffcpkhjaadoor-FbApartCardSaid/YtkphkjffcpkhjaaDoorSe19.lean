import Derived.Test.YtkphkjffcpkhjaaDoorSe18
/-! The symbolic executor: its law. -/
noncomputable section
set_option linter.unusedSimpArgs false
set_option linter.unusedVariables false
namespace Go.SE
open Go.RowKit (Below)
variable {P : Program} {w0 : W0}

/-- What an outcome must serve for. -/
def Post (w0 : W0) (B : Nat) (ρ : Env) (σ : Pl) (h : H) (s : St) (K : Act → World → Prop) : Prop :=
  ∀ ρ' σ' a' w', Ext h ρ ρ' σ σ' → h.le s.h → HRep w0 B ρ' σ' s.h w' → FRep ρ' σ' s.h s.fr s.n a' → K a' w'
theorem Post.mono {B : Nat} {ρ : Env} {σ : Pl} {h : H} {s : St} {K K' : Act → World → Prop} (p : Post w0 B ρ σ h s K) (hk : ∀ a w, K a w → K' a w) : Post w0 B ρ σ h s K' :=
  fun ρ' σ' a' w' h1 h2 h3 h4 => hk _ _ (p ρ' σ' a' w' h1 h2 h3 h4)
/-- from a later place. -/
theorem Post.from {B : Nat} {ρ ρ' : Env} {σ σ' : Pl} {h h' : H} {s : St} {K : Act → World → Prop} (p : Post w0 B ρ σ h s K) (e : Ext h ρ ρ' σ σ') (l : h.le h') : Post w0 B ρ' σ' h' s K :=
  fun ρ'' σ'' a' w' h1 h2 h3 h4 => p ρ'' σ'' a' w' (e.trans h1 l.v l.b) (l.trans h2) h3 h4

def CallOk (P : Program) (I : Interp) (f : Nat) (args : List SV) (h : H) (ob : List Obl) (rs : List (SV × H)) : Prop :=
  ∀ (w0 : W0), w0.i = I → (∀ o ∈ ob, o.ok w0) → ∀ (B : Nat) (ρ : Env) (σ : Pl) (w : World) (vs : List Value), HRep w0 B ρ σ h w → VRep ρ σ h args vs →
    Calls P f vs.toArray w fun e w' => ∃ q ∈ rs, ∃ ρ' σ' v, e = .returned v ∧ Ext h ρ ρ' σ σ' ∧ h.le q.2 ∧ HRep w0 B ρ' σ' q.2 w' ∧ VRep ρ' σ' q.2 [q.1] [v]
def CfOk (P : Program) (I : Interp) (C : Ctx) (cf : CallF) : Prop := ∀ f fn, C.ft f = some fn → ∀ args h ob rs, cf f args h = some (ob, rs) → CallOk P I f args h ob rs
structure CtxOk (P : Program) (I : Interp) (C : Ctx) : Prop where
  tt : TabOk P C.tt
  ft : ∀ f fn, C.ft f = some fn → P.funcs[f]? = some fn ∧ fn.body.isSome = true ∧ (fn.name == "runtime.NumGoroutine") = false
  mt : ∀ t m f, C.mt t m = some f → ∀ v w, (method (P.types.size + Made.depth) t v m).run P w = .ok (f, v) w
  mo : P.follows .mixedOrders = true
  hd : ∀ f k, C.hd f = some k → ∀ args h ob rs, k args h = some (ob, rs) → CallOk P I f args h ob rs

theorem FRep.put {ρ : Env} {σ : Pl} {h : H} {fr : List (Nat × SV)} {n : Nat} {a : Act} (hf : FRep ρ σ h fr n a) {t : Nat} (ht : t < n) {s : SV} {v : Value} (hv : VRep ρ σ h [s] [v]) :
    FRep ρ σ h (fset t s fr) n (a.put (some t) v) := by
  intro ρ' σ' he
  have h1 := hf _ _ he
  have h2 := hv _ _ he
  simp only [List.map_cons, List.map_nil, List.cons.injEq, and_true] at h2
  rw [← h2]
  exact h1.put t ht s
theorem FRep.undef {ρ : Env} {σ : Pl} {h : H} {fr : List (Nat × SV)} {n : Nat} {a : Act} (hf : FRep ρ σ h fr n a) (t : Nat) : FRep ρ σ h (fdel t fr) n (a.put (some t) undef) := by
  intro ρ' σ' he
  have h1 := hf _ _ he
  refine ⟨by simp [Act.put, h1.size], fun u v hv => ?_, h1.defers⟩
  rw [fget_fdel] at hv
  by_cases e : u = t
  · simp [e] at hv
  · simp only [e, if_false] at hv
    have := h1.get u v hv
    simp only [Act.put, Array.getD_eq_getD_getElem?] at this ⊢
    rw [Array.getElem?_setIfInBounds_ne (Ne.symm e)]
    exact this
theorem putS_val {d : Option Nat} {s : SV} {st st' : St} (e : putS d (some s) st = some st') {ρ : Env} {σ : Pl} {a : Act} {v : Value} (hf : FRep ρ σ st.h st.fr st.n a) (hv : VRep ρ σ st.h [s] [v]) :
    st'.h = st.h ∧ FRep ρ σ st'.h st'.fr st'.n (a.put d v) := by
  cases d with
  | none => simp only [putS, Option.some.injEq] at e; subst e; exact ⟨rfl, hf⟩
  | some d =>
    simp only [putS, force_eq] at e
    cases hb : Nat.blt d st.n with
    | false => simp [hb] at e
    | true =>
      simp only [hb, cond_true, Option.some.injEq] at e
      subst e
      exact ⟨rfl, hf.put (by simpa [Nat.blt_eq] using hb) hv⟩
theorem putS_undef {d : Option Nat} {st st' : St} (e : putS d none st = some st') {ρ : Env} {σ : Pl} {a : Act} (hf : FRep ρ σ st.h st.fr st.n a) :
    st'.h = st.h ∧ FRep ρ σ st'.h st'.fr st'.n (a.put d undef) := by
  cases d with
  | none => simp only [putS, Option.some.injEq] at e; subst e; exact ⟨rfl, hf⟩
  | some d =>
    simp only [putS, force_eq] at e
    cases hb : Nat.blt d st.n with
    | false => simp [hb] at e
    | true =>
      simp only [hb, cond_true, Option.some.injEq] at e
      subst e
      exact ⟨rfl, hf.put (by simpa [Nat.blt_eq] using hb) (fun _ _ _ => rfl)⟩

theorem HRep.fs {B : Nat} {ρ : Env} {σ : Pl} {h : H} {w : World} (r : HRep w0 B ρ σ h w) (F : List Fact) (hF : ∀ ρ' σ', Ext h ρ ρ' σ σ' → ∀ f ∈ F, f.ok ρ') : HRep w0 B ρ σ { h with fs := F } w := by
  intro ρ' σ' he
  have he' : Ext h ρ ρ' σ σ' := ⟨he.f, he.p, he.v, he.b⟩
  have h1 := r _ _ he'
  exact ⟨h1.ip, h1.lay, h1.below, h1.size, h1.blk, h1.apart, hF _ _ he'⟩

theorem stepM_ok {C : Ctx} (hC : CtxOk P w0.i C) {d : Option Nat} {o : Oper} {st : St} {ob : List Obl} {sts : List St} (e : stepM C d o st = some (ob, sts)) (hob : ∀ o ∈ ob, o.ok w0)
    {B : Nat} {ρ : Env} {σ : Pl} {a : Act} {w : World} (hr : HRep w0 B ρ σ st.h w) (hf : FRep ρ σ st.h st.fr st.n a) {K : Act → World → Prop} {Q : Exit → Act → World → Prop}
    (hp : ∀ s ∈ sts, Post w0 B ρ σ st.h s K) : o.wp P a w K Q := by
  unfold stepM at e
  obtain ⟨⟨gs, sv, h'⟩, hm, e⟩ := bind1 e
  simp only at e
  rw [Option.map_eq_some_iff] at e
  obtain ⟨s, hs, e⟩ := e
  cases e
  have hg := obls_ok (fs := st.h.fs) (l := gs) hob
  obtain ⟨ρ', σ', nx, w', hrun, hext, hle, hrep, hnx⟩ := memOp_ok hC.tt hm hr hf hg
  have hp1 := hp s List.mem_cons_self
  -- the memory behind it, with what is now known
  have key : ∀ h'' : H, h'' = afterH d st.h.fs gs h' → st.h.le h'' ∧ h'.le h'' ∧ h''.le h' ∧ HRep w0 B ρ' σ' h'' w' := by
    intro h'' e
    clear hs hm
    cases d with
    | none =>
      subst e
      refine ⟨⟨hle.v, hle.b⟩, ⟨fun _ h => h, fun _ h => h⟩, ⟨fun _ h => h, fun _ h => h⟩, hrep.fs _ fun ρ₁ σ₁ he => ?_⟩
      have h1 := hr _ _ (hext.trans he hle.v hle.b)
      exact newFs_ok h1.facts (hg ρ₁ h1.ip h1.facts)
    | some i => subst e; exact ⟨hle, H.le.refl _, H.le.refl _, hrep⟩
  generalize hh : afterH d st.h.fs gs h' = h'' at hs
  obtain ⟨k1, k2, k3, k4⟩ := key h'' hh.symm
  have hf' : FRep ρ' σ' h'' st.fr st.n a := hf.ext hext k1
  have hnx' : ∀ ρ₁ σ₁, Ext h'' ρ' ρ₁ σ' σ₁ → isNx ρ₁ σ₁ sv nx := fun ρ₁ σ₁ he => hnx ρ₁ σ₁ (he.of_le k2)
  unfold Oper.wp
  rw [hrun]
  cases sv with
  | none =>
    have h0 := hnx' _ _ (Ext.refl _ _ _)
    cases nx <;> simp only [isNx] at h0
    obtain ⟨e1, e2⟩ := putS_undef (st := { st with h := h'' }) hs hf'
    simp only [Oper.upon]
    refine hp1 ρ' σ' _ _ hext (by rw [e1]; exact k1) (by rw [e1]; exact k4) e2
  | some sv =>
    have h0 := hnx' _ _ (Ext.refl _ _ _)
    cases nx <;> simp only [isNx] at h0
    rename_i v
    obtain ⟨e1, e2⟩ := putS_val (st := { st with h := h'' }) hs hf' (v := v) (fun ρ₁ σ₁ he => by
      have := hnx' ρ₁ σ₁ he
      simp only [isNx] at this
      simp [this])
    simp only [Oper.upon]
    refine hp1 ρ' σ' _ _ hext (by rw [e1]; exact k1) (by rw [e1]; exact k4) e2

theorem putAll_mem {d : Option Nat} {st : St} : ∀ {l : List (SV × H)} {r : List St}, putAll d st l = some r → ∀ q ∈ l, ∃ s ∈ r, putS d (some q.1) { st with h := q.2 } = some s
  | [], r, e => by simp
  | (v, h) :: l, r, e => by
    simp only [putAll] at e
    obtain ⟨s, hs, e⟩ := bind1 e
    rw [Option.map_eq_some_iff] at e
    obtain ⟨r', hr', e⟩ := e
    subst e
    intro q hq
    simp only [List.mem_cons] at hq
    rcases hq with rfl | hq
    · exact ⟨s, List.mem_cons_self, hs⟩
    · obtain ⟨s', h1, h2⟩ := putAll_mem hr' q hq
      exact ⟨s', List.mem_cons_of_mem _ h1, h2⟩

theorem call_ok {C : Ctx} (hC : CtxOk P w0.i C) {cf : CallF} (hcf : CfOk P w0.i C cf) {o : Oper} {st : St} {ob : List Obl} {sts : List St} {i : Nat} {args : List SV} {fn : Func} {rs : List (SV × H)}
    (hfn : C.ft i = some fn) (hc : cf i args st.h = some (ob, rs)) (hpa : putAll o.dst st rs = some sts) (hob : ∀ o ∈ ob, o.ok w0)
    {B : Nat} {ρ : Env} {σ : Pl} {a : Act} {w : World} (hr : HRep w0 B ρ σ st.h w) (hf : FRep ρ σ st.h st.fr st.n a) {K : Act → World → Prop} {Q : Exit → Act → World → Prop}
    (vs : List Value) (hrun : (execOp a.eval o).run P w = (callFunc i vs.toArray).run P w) (hvs : VRep ρ σ st.h args vs)
    (hp : ∀ s ∈ sts, Post w0 B ρ σ st.h s K) : o.wp P a w K Q := by
  obtain ⟨h1, h2, h3⟩ := hC.ft i fn hfn
  have hcall := hcf i fn hfn args st.h ob rs hc w0 rfl hob B ρ σ w vs hr hvs
  have hgo : (callFunc i vs.toArray).run P w = .ok (.enter i vs.toArray) w := by
    have hb : fn.body.isNone = false := by cases hb : fn.body <;> simp_all
    unfold callFunc
    simp only [Sem.run_bind, run_program, Result.andThen_ok, h1, h3, Bool.false_eq_true, if_false, hb, Sem.run_pure]
  unfold Oper.wp
  rw [hrun, hgo, Oper.upon_enter]
  refine hcall.mono ?_
  rintro e w' ⟨q, hq, ρ', σ', v, rfl, hext, hle, hrep, hv⟩
  obtain ⟨s, hs, hput⟩ := putAll_mem hpa q hq
  obtain ⟨e1, e2⟩ := putS_val (st := { st with h := q.2 }) hput (hf.ext hext hle) hv
  exact hp s hs ρ' σ' _ _ hext (by rw [e1]; exact hle) (by rw [e1]; exact hrep) e2

theorem stepO_ok {C : Ctx} (hC : CtxOk P w0.i C) {cf : CallF} (hcf : CfOk P w0.i C cf) {d : Option Nat} {o : Oper} {st : St} {ob : List Obl} {sts : List St} (e : stepO C cf d o st = some (ob, sts)) (hob : ∀ o ∈ ob, o.ok w0)
    {B : Nat} {ρ : Env} {σ : Pl} {a : Act} {w : World} (hr : HRep w0 B ρ σ st.h w) (hf : FRep ρ σ st.h st.fr st.n a) {K : Act → World → Prop} {Q : Exit → Act → World → Prop}
    (hp : ∀ s ∈ sts, Post w0 B ρ σ st.h s K) : o.wp P a w K Q := by
  unfold stepO at e
  split at e
  case h_2 => exact stepM_ok hC e hob hr hf hp
  rename_i c hop
  split at e
  · rename_i hcallee
    split at e
    · rename_i x y t u hargs htys
      cases hb : Nat.beq t u with
      | false => simp [hb] at e
      | true =>
        have htu := beq_true.1 hb
        subst htu
        simp only [hb, cond_true] at e
        obtain ⟨vx, hx, e⟩ := bind1 e
        obtain ⟨vy, hy, e⟩ := bind1 e
        obtain ⟨⟨g, outs⟩, hm, e⟩ := bind1 e
        rw [Option.map_eq_some_iff] at e
        obtain ⟨r, hpa, e⟩ := e
        cases e
        have hg := obls_ok (fs := st.h.fs) (l := g) hob
        obtain ⟨q, hq, ρ', σ', v, w', hrun, hext, hle, hrep, hv⟩ := mAppA_ok (ty := o.type) hC.tt hm hr (fun ρ₁ σ₁ he => ev_ok (hf _ _ he) hx) (fun ρ₁ σ₁ he => ev_ok (hf _ _ he) hy) hg
        have ha : c.args = #[x, y] := by apply Array.ext'; simpa using hargs
        have hty : c.argTypes = #[t, t] := by apply Array.ext'; simpa using htys
        obtain ⟨s, hs, hput⟩ := putAll_mem hpa q hq
        obtain ⟨e1, e2⟩ := putS_val (st := { st with h := q.2 }) hput (hf.ext hext hle) hv
        unfold Oper.wp execOp
        simp only [hop, resolve, hcallee, ha, hty, invoke, builtin, Sem.run_bind, Sem.run_pure, Result.andThen_ok, List.map_toArray, List.map_cons, List.map_nil, hrun, Oper.upon]
        exact hp s hs ρ' σ' _ _ hext (by rw [e1]; exact hle) (by rw [e1]; exact hrep) e2
    · cases e
  · exact stepM_ok hC e hob hr hf hp
  · rename_i f hcallee
    obtain ⟨vf, hvf, e⟩ := bind1 e
    split at e
    · rename_i i caps
      obtain ⟨l, hl, e⟩ := bind1 e
      obtain ⟨fn, hfn, e⟩ := bind1 e
      obtain ⟨⟨ob', rs⟩, hc, e⟩ := bind1 e
      rw [Option.map_eq_some_iff] at e
      obtain ⟨r, hr', e⟩ := e
      cases e
      have h1 : ∀ ρ₁ σ₁, Ext st.h ρ ρ₁ σ σ₁ → c.args.toList.map a.eval = l.map (SV.val ρ₁ σ₁) := fun ρ₁ σ₁ he => evs_ok (fun x s hs => ev_ok (hf _ _ he) hs) hl
      have h2 : ∀ ρ₁ σ₁, Ext st.h ρ ρ₁ σ σ₁ → a.eval f = .func (.func i) #[] (caps.map (SV.val ρ₁ σ₁)).toArray := fun ρ₁ σ₁ he => by
        have := ev_ok (hf _ _ he) hvf
        rw [this]; simp [SV.val, vals_eq]
      refine call_ok hC hcf hfn hc hr' hob hr hf (c.args.toList.map a.eval ++ caps.map (SV.val ρ σ)) ?_ ?_ hp
      · have h3 := h2 ρ σ (Ext.refl _ _ _)
        have h4 : c.args.map a.eval = (c.args.toList.map a.eval).toArray := by apply Array.ext'; simp
        simp only [execOp, hop, resolve, hcallee, h3, Deferred.ofValue, Sem.run_bind, Sem.run_pure, Result.andThen_ok, invoke, h4]
        simp
      · intro ρ₁ σ₁ he
        rw [List.map_append, ← h1 ρ₁ σ₁ he]
        congr 1
        have e1 := h2 ρ₁ σ₁ he
        rw [h2 ρ σ (Ext.refl _ _ _)] at e1
        simpa using e1.symm
    · cases e
  · rename_i r m hcallee
    obtain ⟨vf, hvf, e⟩ := bind1 e
    split at e
    · rename_i t v
      obtain ⟨l, hl, e⟩ := bind1 e
      obtain ⟨i, hi, e⟩ := bind1 e
      obtain ⟨fn, hfn, e⟩ := bind1 e
      obtain ⟨⟨ob', rs⟩, hc, e⟩ := bind1 e
      rw [Option.map_eq_some_iff] at e
      obtain ⟨r', hr', e⟩ := e
      cases e
      have h1 : ∀ ρ₁ σ₁, Ext st.h ρ ρ₁ σ σ₁ → c.args.toList.map a.eval = l.map (SV.val ρ₁ σ₁) := fun ρ₁ σ₁ he => evs_ok (fun x s hs => ev_ok (hf _ _ he) hs) hl
      have h2 : ∀ ρ₁ σ₁, Ext st.h ρ ρ₁ σ σ₁ → a.eval r = .iface t (v.val ρ₁ σ₁) := fun ρ₁ σ₁ he => ev_ok (hf _ _ he) hvf
      refine call_ok hC hcf hfn hc hr' hob hr hf (v.val ρ σ :: c.args.toList.map a.eval) ?_ ?_ hp
      · have h3 := h2 ρ σ (Ext.refl _ _ _)
        have h4 : c.args.map a.eval = (c.args.toList.map a.eval).toArray := by apply Array.ext'; simp
        have h5 : (#[Value.iface t (v.val ρ σ)] ++ (c.args.toList.map a.eval).toArray).extract 1 (#[Value.iface t (v.val ρ σ)] ++ (c.args.toList.map a.eval).toArray).size = (c.args.toList.map a.eval).toArray := by
          apply Array.ext'; simp
          exact List.take_of_length_le (by simp)
        have h6 : (#[Value.iface t (v.val ρ σ)] ++ (c.args.toList.map a.eval).toArray)[0]? = some (Value.iface t (v.val ρ σ)) := by simp
        have hmt := hC.mt t m i hi (v.val ρ σ) w
        simp only [execOp, hop, resolve, hcallee, h3, Sem.run_bind, Sem.run_pure, Result.andThen_ok, invoke, h4, h6, h5, callMethod, run_program, hmt]
        simp
      · intro ρ₁ σ₁ he
        rw [List.map_cons, ← h1 ρ₁ σ₁ he]
        congr 1
        have e1 := h2 ρ₁ σ₁ he
        rw [h2 ρ σ (Ext.refl _ _ _)] at e1
        simpa using e1.symm
    · cases e

theorem wnt_yes {all : Array Oper} {o : Oper} {fr : List (Nat × SV)} (h : wnt all o fr = some .yes) {ρ : Env} {σ : Pl} {n : Nat} {a : Act} (hf : FrOk ρ σ fr n a) : Region.wanted o (yielded all a.tmps) = true := by
  unfold wnt at h
  unfold Region.wanted
  split at h
  · rename_i hg; simp [hg]
  · rename_i j want hg
    obtain ⟨d, hd, h⟩ := bind1 h
    obtain ⟨v, hv, h⟩ := bind1 h
    split at h
    · rename_i b
      cases hb : (b == want) with
      | false => simp [hb] at h
      | true =>
        have hb' : b = want := by simpa using hb
        subst hb'
        have h1 := hf.get d _ hv
        simp only [SV.val, X.den, asB_b] at h1
        have h2 : a.tmps[d]? = some (.bool b) := by
          rw [Array.getD_eq_getD_getElem?] at h1
          cases hq : a.tmps[d]? with
          | none => rw [hq] at h1; simp [undef] at h1
          | some q => rw [hq] at h1; simp at h1; rw [h1]
        simp [hg, yielded, hd, h2]
    · cases h
    · cases h
    · cases h
theorem wnt_no {all : Array Oper} {o : Oper} {fr : List (Nat × SV)} (h : wnt all o fr = some .no) {ρ : Env} {σ : Pl} {n : Nat} {a : Act} (hf : FrOk ρ σ fr n a) : Region.wanted o (yielded all a.tmps) = false := by
  unfold wnt at h
  unfold Region.wanted
  split at h
  · cases h
  · rename_i j want hg
    obtain ⟨d, hd, h⟩ := bind1 h
    obtain ⟨v, hv, h⟩ := bind1 h
    split at h
    · rename_i b
      cases hb : (b == want) with
      | true => simp [hb] at h
      | false =>
        have h1 := hf.get d _ hv
        simp only [SV.val, X.den, asB_b] at h1
        have h2 : a.tmps[d]? = some (.bool b) := by
          rw [Array.getD_eq_getD_getElem?] at h1
          cases hq : a.tmps[d]? with
          | none => rw [hq] at h1; simp [undef] at h1
          | some q => rw [hq] at h1; simp at h1; rw [h1]
        have hne : b ≠ want := by simpa using hb
        simp [hg, yielded, hd, h2, hne]
    · cases h
    · have h1 := hf.get d _ hv
      have h3 : SV.val ρ σ (.tuple []) = .tuple #[] := rfl
      rw [h3] at h1
      have h2 : a.tmps[d]? = none ∨ a.tmps[d]? = some (.tuple #[]) := by
        rw [Array.getD_eq_getD_getElem?] at h1
        cases hq : a.tmps[d]? with
        | none => exact .inl rfl
        | some q => rw [hq] at h1; simp at h1; rw [h1]; exact .inr rfl
      rcases h2 with h2 | h2 <;> simp [hg, yielded, hd, h2]
    · cases h
theorem wnt_fork {all : Array Oper} {o : Oper} {fr : List (Nat × SV)} {x : X} {d : Nat} {want : Bool} (h : wnt all o fr = some (.fork x d want)) :
    ∃ j, o.guard = some (j, want) ∧ (all[j]?).bind (·.dst) = some d ∧ fget fr d = some (.bool x) := by
  unfold wnt at h
  split at h
  · cases h
  · rename_i j want' hg
    obtain ⟨d', hd, h⟩ := bind1 h
    obtain ⟨v, hv, h⟩ := bind1 h
    split at h
    · rename_i b; cases hb : (b == want') <;> simp [hb] at h
    · simp only [Option.some.injEq, Wnt.fork.injEq] at h
      obtain ⟨rfl, rfl, rfl⟩ := h
      exact ⟨j, hg, hd, hv⟩
    · cases h
    · cases h

theorem joinAll_mem {α β : Type} {k : α → Option (List Obl × List β)} : ∀ {l : List α} {ob : List Obl} {r : List β}, joinAll k l = some (ob, r) → ∀ a ∈ l, ∃ ob' r', k a = some (ob', r') ∧ (∀ o ∈ ob', o ∈ ob) ∧ ∀ x ∈ r', x ∈ r
  | [], ob, r, h => by simp
  | a :: l, ob, r, h => by
    simp only [joinAll] at h
    obtain ⟨q, hq, h⟩ := bind1 h
    rw [Option.map_eq_some_iff] at h
    obtain ⟨s, hs, h⟩ := h
    cases h
    intro b hb
    simp only [List.mem_cons] at hb
    rcases hb with rfl | hb
    · exact ⟨q.1, q.2, hq, fun o ho => List.mem_append_left _ ho, fun x hx => List.mem_append_left _ hx⟩
    · obtain ⟨ob', r', h1, h2, h3⟩ := joinAll_mem (ob := s.1) (r := s.2) hs b hb
      exact ⟨ob', r', h1, fun o ho => List.mem_append_right _ (h2 o ho), fun x hx => List.mem_append_right _ (h3 x hx)⟩
theorem thenAll_mem {α β : Type} {r : Option (List Obl × List α)} {k : α → Option (List Obl × List β)} {ob : List Obl} {t : List β} (h : thenAll r k = some (ob, t)) :
    ∃ ob1 l, r = some (ob1, l) ∧ (∀ o ∈ ob1, o ∈ ob) ∧ ∀ a ∈ l, ∃ ob' r', k a = some (ob', r') ∧ (∀ o ∈ ob', o ∈ ob) ∧ ∀ x ∈ r', x ∈ t := by
  unfold thenAll at h
  obtain ⟨q, hq, h⟩ := bind1 h
  rw [Option.map_eq_some_iff] at h
  obtain ⟨s, hs, h⟩ := h
  cases h
  refine ⟨q.1, q.2, hq, fun o ho => List.mem_append_left _ ho, fun a ha => ?_⟩
  obtain ⟨ob', r', h1, h2, h3⟩ := joinAll_mem (ob := s.1) (r := s.2) hs a ha
  exact ⟨ob', r', h1, fun o ho => List.mem_append_right _ (h2 o ho), h3⟩
theorem both_mem {β : Type} {a b : Option (List Obl × List β)} {ob : List Obl} {t : List β} (h : both a b = some (ob, t)) :
    ∃ o1 t1 o2 t2, a = some (o1, t1) ∧ b = some (o2, t2) ∧ (∀ o ∈ o1, o ∈ ob) ∧ (∀ o ∈ o2, o ∈ ob) ∧ (∀ x ∈ t1, x ∈ t) ∧ ∀ x ∈ t2, x ∈ t := by
  unfold both at h
  obtain ⟨q, hq, h⟩ := bind1 h
  rw [Option.map_eq_some_iff] at h
  obtain ⟨s, hs, h⟩ := h
  cases h
  exact ⟨q.1, q.2, s.1, s.2, hq, hs, fun o ho => List.mem_append_left _ ho, fun o ho => List.mem_append_right _ ho, fun o ho => List.mem_append_left _ ho, fun o ho => List.mem_append_right _ ho⟩

/-- A truth value known to be one of the two. -/
theorem assume_rep {B : Nat} {ρ : Env} {σ : Pl} {st : St} {w : World} {x : X} {b : Bool} (hr : HRep w0 B ρ σ st.h w)
    (hx : ∀ ρ₁ σ₁, Ext st.h ρ ρ₁ σ σ₁ → (x.den ρ₁).asB = b) : HRep w0 B ρ σ (assume x b st).h w := by
  refine hr.fs _ fun ρ₁ σ₁ he f hf => ?_
  simp only [List.mem_cons] at hf
  rcases hf with rfl | hf
  · simp only [Fact.ok]
    cases b with
    | true => exact hx ρ₁ σ₁ he
    | false => simp only [litB, cond_false, mNot_den, hx ρ₁ σ₁ he]; rfl
  · exact (hr _ _ he).facts f hf

theorem eith_mem {β : Type} {k l : Bool} {a b : Option (List Obl × List β)} {ob : List Obl} {r : List β} (e : eith k l a b = some (ob, r)) {p want : Bool} (hk : k = true → p = want) (hl : l = true → p = !want) :
    (p = want → ∃ o t, a = some (o, t) ∧ (∀ x ∈ o, x ∈ ob) ∧ ∀ x ∈ t, x ∈ r) ∧ (p = (!want) → ∃ o t, b = some (o, t) ∧ (∀ x ∈ o, x ∈ ob) ∧ ∀ x ∈ t, x ∈ r) := by
  have ne : p = want → p = (!want) → False := by intro h1 h2; rw [h1] at h2; cases want <;> cases h2
  unfold eith at e
  cases k with
  | true => exact ⟨fun _ => ⟨ob, r, e, fun _ h => h, fun _ h => h⟩, fun h => (ne (hk rfl) h).elim⟩
  | false =>
    simp only [cond_false] at e
    cases l with
    | true => exact ⟨fun h => (ne h (hl rfl)).elim, fun _ => ⟨ob, r, e, fun _ h => h, fun _ h => h⟩⟩
    | false =>
      simp only [cond_false] at e
      obtain ⟨o1, t1, o2, t2, ea, eb, ho1, ho2, ht1, ht2⟩ := both_mem e
      exact ⟨fun _ => ⟨o1, t1, ea, ho1, ht1⟩, fun _ => ⟨o2, t2, eb, ho2, ht2⟩⟩
theorem execOps_ok {C : Ctx} (hC : CtxOk P w0.i C) {cf : CallF} (hcf : CfOk P w0.i C cf) {all : Array Oper} : ∀ {l : List Oper} {st : St} {ob : List Obl} {sts : List St}, execOps C cf all l st = some (ob, sts) → (∀ o ∈ ob, o.ok w0) →
    ∀ {B : Nat} {ρ : Env} {σ : Pl} {a : Act} {w : World}, HRep w0 B ρ σ st.h w → FRep ρ σ st.h st.fr st.n a → ∀ {Q : Exit → Act → World → Prop},
    (∀ s ∈ sts, Post w0 B ρ σ st.h s (Q .normal)) → wpList P all Q l a w
  | [], st, ob, sts, e, hob, B, ρ, σ, a, w, hr, hf, Q, hp => by
    simp only [execOps, Option.some.injEq, Prod.mk.injEq] at e
    obtain ⟨rfl, rfl⟩ := e
    exact hp st List.mem_cons_self ρ σ a w (Ext.refl _ _ _) (H.le.refl _) hr hf
  | o :: rest, st, ob, sts, e, hob, B, ρ, σ, a, w, hr, hf, Q, hp => by
    simp only [execOps] at e
    have yes : ∀ {st' : St} {ob' : List Obl} {sts' : List St}, thenAll (stepO C cf none o st') (execOps C cf all rest) = some (ob', sts') → (∀ o ∈ ob', o.ok w0) → (∀ s ∈ sts', s ∈ sts) →
        st'.n = st.n → st.h.le st'.h → st'.h.le st.h → HRep w0 B ρ σ st'.h w → FRep ρ σ st'.h st'.fr st'.n a → Region.wanted o (yielded all a.tmps) = true → wpList P all Q (o :: rest) a w := by
      intro st' ob' sts' e hob' hsub hn hle hle' hr' hf' hw
      obtain ⟨ob1, l, h1, h2, h3⟩ := thenAll_mem e
      unfold wpList
      rw [if_pos hw]
      refine .inl (stepO_ok hC hcf h1 (fun o ho => hob' o (h2 o ho)) hr' hf' fun s hs => ?_)
      obtain ⟨ob2, r2, h4, h5, h6⟩ := h3 s hs
      intro ρ' σ' a' w' he hl hr2 hf2
      exact execOps_ok hC hcf h4 (fun o ho => hob' o (h5 o ho)) hr2 hf2 fun s' hs' => (hp s' (hsub s' (h6 s' hs'))).from (he.of_le hle) (hle.trans hl)
    have no : ∀ {st' s' : St} {ob' : List Obl} {sts' : List St}, putS o.dst none st' = some s' → execOps C cf all rest s' = some (ob', sts') → (∀ o ∈ ob', o.ok w0) → (∀ s ∈ sts', s ∈ sts) →
        st.h.le st'.h → st'.h.le st.h → HRep w0 B ρ σ st'.h w → FRep ρ σ st'.h st'.fr st'.n a → Region.wanted o (yielded all a.tmps) = false → wpList P all Q (o :: rest) a w := by
      intro st' s' ob' sts' hput e hob' hsub hle hle' hr' hf' hw
      unfold wpList
      rw [if_neg (by simp [hw])]
      obtain ⟨e1, e2⟩ := putS_undef hput hf'
      have hl2 : st.h.le s'.h := by rw [e1]; exact hle
      exact execOps_ok hC hcf e hob' (by rw [e1]; exact hr') e2 fun s2 hs2 => (hp s2 (hsub s2 hs2)).from (Ext.refl _ _ _) hl2
    split at e
    · rename_i hw
      exact yes e hob (fun s hs => hs) rfl (H.le.refl _) (H.le.refl _) hr hf (wnt_yes hw hf.now)
    · rename_i hw
      obtain ⟨s', hput, e⟩ := bind1 e
      exact no hput e hob (fun s hs => hs) (H.le.refl _) (H.le.refl _) hr hf (wnt_no hw hf.now)
    · rename_i x d want hw
      obtain ⟨j, hg, hd, hx⟩ := wnt_fork hw
      have hval : ∀ ρ₁ σ₁, Ext st.h ρ ρ₁ σ σ₁ → a.tmps.getD d undef = .bool (x.den ρ₁).asB := fun ρ₁ σ₁ he => (hf _ _ he).get d _ hx
      have hsame : ∀ ρ₁ σ₁, Ext st.h ρ ρ₁ σ σ₁ → (x.den ρ₁).asB = (x.den ρ).asB := fun ρ₁ σ₁ he => by
        have h1 := hval ρ₁ σ₁ he
        rw [hval ρ σ (Ext.refl _ _ _)] at h1
        simpa using h1.symm
      have hget : a.tmps[d]? = some (.bool (x.den ρ).asB) := by
        have h1 := hval ρ σ (Ext.refl _ _ _)
        rw [Array.getD_eq_getD_getElem?] at h1
        cases hq : a.tmps[d]? with
        | none => rw [hq] at h1; simp [undef] at h1
        | some q => rw [hq] at h1; simp at h1; rw [h1]
      have hf2 : ∀ b, (x.den ρ).asB = b → FRep ρ σ st.h (fset d (.bool (.t b)) st.fr) st.n a := by
        intro b hb ρ₁ σ₁ he
        have h1 := hf _ _ he
        refine ⟨h1.size, fun t v hv => ?_, h1.defers⟩
        rw [fget_fset] at hv
        by_cases e : t = d
        · subst e
          simp only [if_true, Option.some.injEq] at hv
          subst hv
          rw [hval _ _ he, hsame _ _ he, hb]; rfl
        · simp only [e, if_false] at hv
          exact h1.get t v hv
      have hwant : Region.wanted o (yielded all a.tmps) = ((x.den ρ).asB == want) := by
        unfold Region.wanted
        simp only [hg, yielded, hd, Option.bind_some, hget]
        cases (x.den ρ).asB <;> cases want <;> rfl
      have hlit : ∀ b, known st.h.fs (litB x b) = true → (x.den ρ).asB = b := by
        intro b hk
        have h1 := known_ok hk ρ hr.now.facts
        unfold litB at h1
        cases b with
        | true => exact h1
        | false => simp only [cond_false, mNot_den, Bool.not_eq_true'] at h1; exact h1
      obtain ⟨hA, hB⟩ := eith_mem e (fun k => hlit _ k) (fun k => hlit _ k)
      by_cases hb : (x.den ρ).asB = want
      · obtain ⟨o1, t1, ea, ho1, ht1⟩ := hA hb
        refine yes (st' := assume x want { st with fr := fset d (.bool (.t want)) st.fr }) ea (fun o ho => hob o (ho1 o ho)) ht1 rfl ⟨fun _ h => h, fun _ h => h⟩ ⟨fun _ h => h, fun _ h => h⟩ ?_ ?_ (by rw [hwant, hb]; simp)
        · exact assume_rep (st := { st with fr := fset d (.bool (.t want)) st.fr }) hr fun ρ₁ σ₁ he => by rw [hsame _ _ he, hb]
        · exact (hf2 want hb).ext (Ext.refl _ _ _) ⟨fun _ h => h, fun _ h => h⟩
      · have hb' : (x.den ρ).asB = !want := by cases h1 : (x.den ρ).asB <;> cases want <;> simp_all
        obtain ⟨o2, t2, eb, ho2, ht2⟩ := hB hb'
        obtain ⟨s', hput, eb⟩ := bind1 eb
        refine no (st' := assume x (!want) { st with fr := fset d (.bool (.t (!want))) st.fr }) hput eb (fun o ho => hob o (ho2 o ho)) ht2 ⟨fun _ h => h, fun _ h => h⟩ ⟨fun _ h => h, fun _ h => h⟩ ?_ ?_ (by rw [hwant, hb']; cases want <;> rfl)
        · exact assume_rep (st := { st with fr := fset d (.bool (.t (!want))) st.fr }) hr fun ρ₁ σ₁ he => by rw [hsame _ _ he, hb']
        · exact (hf2 (!want) hb').ext (Ext.refl _ _ _) ⟨fun _ h => h, fun _ h => h⟩
    · cases e
end Go.SE
end
